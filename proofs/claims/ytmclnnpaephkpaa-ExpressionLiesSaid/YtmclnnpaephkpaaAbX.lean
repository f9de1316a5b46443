/-
  What the evaluator that computes says holds of the abstract wp.
-/
import Derived.Test.YtmclnnpaephkpaaAbW
namespace Go.Proofs.Ytmclnnpaephkpaa
set_option linter.unusedVariables false
set_option linter.unusedSimpArgs false
set_option linter.unnecessarySimpa false
set_option linter.unusedSectionVars false
open Go.RowKit

section
variable {X : XE} {K : ASt → R} {σ : ASt} {v : PV × Objs} {o : Oper} {ops : Array Oper}
theorem putX_sound {E : AE} {dst : Option Nat} {p : PV} (h : putX E dst p K σ = some v) : thenPut E dst p σ fun σ' => K σ' = some v := by
  unfold putX at h; unfold thenPut
  split at h
  · rename_i e; rw [e]; exact h
  · cases h
theorem chk_some {b : Bool} {A : R} (h : chk b A = some v) : b = true ∧ A = some v := by
  cases b
  · cases h
  · exact ⟨rfl, h⟩
theorem stepK_of {E : AE} {p : PV} {σ1 : ASt} (h : stepV E o σ = some (p, σ1)) (hs : sideV E o σ) (hp : putX E o.dst p K σ1 = some v) : stepK E o (fun σ' => K σ' = some v) σ := by
  unfold stepK; rw [h]; exact ⟨hs, putX_sound hp⟩
theorem exGen_sound (hs : sideV X.E o σ) (h : exGen X o K σ = some v) : stepK X.E o (fun σ' => K σ' = some v) σ := by
  unfold exGen at h
  split at h
  · rename_i p σ1 e; exact stepK_of e hs h
  · cases h
theorem rd_bool {d : Nat} {b : Bool} (h : σ.rd (.tmp d) = some (.bool b)) : σ.lit d b = σ := by
  have : sget d σ.s = some (.bool b) := by
    simp only [ASt.rd, ASt.ev] at h
    cases hp : sget d σ.s with
    | none => rw [hp] at h; cases h
    | some p =>
      rw [hp] at h
      cases p <;> simp [PV.un] at h
      rw [h]
  unfold ASt.lit; rw [slit_eq this]
theorem viewOK_some {V : TypeId → PV → (PV → R) → R} (hV : viewOK V) {t : TypeId} {p : PV} {K : PV → R} (h : V t p K = some v) : K p = some v := by
  rcases hV t p with e | e
  · rw [e K] at h; exact h
  · rw [e K] at h; cases h
theorem outOK_some {W : FuncId → Objs → PV → Objs → (PV → Objs → R) → R} (hW : outOK W) {g : FuncId} {hh h' : Objs} {r : PV} {K : PV → Objs → R} (h : W g hh r h' K = some v) : K r h' = some v := by
  rcases hW g hh r h' with e | e
  · rw [e K] at h; exact h
  · rw [e K] at h; cases h
theorem lgetX_some {es : List PV} {n : Int} {K : PV → R} (h : lgetX es n K = some v) : 0 ≤ n ∧ ∃ e, es[n.toNat]? = some e ∧ K e = some v := by
  unfold lgetX at h
  split at h
  · rename_i hn
    split at h
    · rename_i e he; exact ⟨hn, e, he, h⟩
    · cases h
  · cases h
theorem byteX_some {s : ByteArray} {n : Int} {K : Int → R} (h : byteX s n K = some v) : 0 ≤ n ∧ ∃ b, s[n.toNat]? = some b ∧ K b.toNat = some v := by
  unfold byteX at h
  split at h
  · rename_i hn
    split at h
    · rename_i e he; exact ⟨hn, e, he, h⟩
    · cases h
  · cases h
theorem side_no (hc : ∀ c, o.op ≠ .call c) (E : AE) : sideV E o σ := by
  obtain ⟨dst, op, ty, pos, af, g⟩ := o
  cases op <;> first | trivial | (exfalso; exact hc _ rfl)
theorem sliceL_sound {t : TypeId} {dst : Option Nat} {sz : Nat} {es : List PV} {ow : Bool} {lo hi : Option Operand} {x : Operand} {I : TI} (ht : elemTI X.E.P t = some I) (hI : I.size = sz) (hx : σ.rd x = some (.sl ow sz es)) (h : exSliceL X dst sz es lo hi K σ = some v) :
    ∃ p, pop X.E.P σ.rd (.slice t x lo hi none) = some p ∧ putX X.E dst p K σ = some v := by
  have hsz : (elemTI X.E.P t).map TI.size = some sz := by rw [ht]; simp [hI]
  cases lo with
  | none =>
    cases hi with
    | none => exact ⟨_, by simp only [pop, hx, slicePV]; rw [if_pos ⟨hsz, by omega, by omega, by omega⟩]; simp, h⟩
    | some b =>
      simp only [exSliceL] at h
      split at h
      · rename_i k n hb
        obtain ⟨h1, h2⟩ := chk_some h
        simp only [Bool.and_eq_true, decide_eq_true_eq] at h1
        exact ⟨_, by simp only [pop, hx, hb, Option.bind_some, slicePV]; rw [if_pos ⟨hsz, by omega, by omega, by omega⟩]; simp, h2⟩
      · cases h
  | some a =>
    cases hi with
    | none =>
      simp only [exSliceL] at h
      split at h
      · rename_i k n hb
        obtain ⟨h1, h2⟩ := chk_some h
        simp only [Bool.and_eq_true, decide_eq_true_eq] at h1
        exact ⟨_, by simp only [pop, hx, hb, Option.bind_some, slicePV]; rw [if_pos ⟨hsz, by omega, by omega, by omega⟩]; simp, h2⟩
      · cases h
    | some b =>
      simp only [exSliceL] at h
      split at h
      · rename_i k n k' n' ha hb
        obtain ⟨h1, h2⟩ := chk_some h
        simp only [Bool.and_eq_true, decide_eq_true_eq] at h1
        exact ⟨_, by simp only [pop, hx, ha, hb, Option.bind_some, slicePV]; rw [if_pos ⟨hsz, by omega, by omega, by omega⟩], h2⟩
      · cases h
theorem sliceS_sound {t : TypeId} {dst : Option Nat} {s : ByteArray} {lo hi : Option Operand} {x : Operand} (ht : isStrT X.E.P t = true) (hx : σ.rd x = some (.str s)) (h : exSliceS X dst s lo hi K σ = some v) :
    ∃ p, pop X.E.P σ.rd (.slice t x lo hi none) = some p ∧ putX X.E dst p K σ = some v := by
  cases lo with
  | none =>
    cases hi with
    | none => exact ⟨_, by simp only [pop, hx, slicePV]; rw [if_pos ⟨ht, by omega, by omega, by omega⟩]; rfl, h⟩
    | some b =>
      simp only [exSliceS] at h
      split at h
      · rename_i k n hb
        obtain ⟨h1, h2⟩ := chk_some h
        simp only [Bool.and_eq_true, decide_eq_true_eq] at h1
        exact ⟨_, by simp only [pop, hx, hb, Option.bind_some, slicePV]; rw [if_pos ⟨ht, by omega, by omega, by omega⟩]; rfl, h2⟩
      · cases h
  | some a =>
    cases hi with
    | none =>
      simp only [exSliceS] at h
      split at h
      · rename_i k n hb
        obtain ⟨h1, h2⟩ := chk_some h
        simp only [Bool.and_eq_true, decide_eq_true_eq] at h1
        exact ⟨_, by simp only [pop, hx, hb, Option.bind_some, slicePV]; rw [if_pos ⟨ht, by omega, by omega, by omega⟩]; rfl, h2⟩
      · cases h
    | some b =>
      simp only [exSliceS] at h
      split at h
      · rename_i k n k' n' ha hb
        obtain ⟨h1, h2⟩ := chk_some h
        simp only [Bool.and_eq_true, decide_eq_true_eq] at h1
        exact ⟨_, by simp only [pop, hx, ha, hb, Option.bind_some, slicePV]; rw [if_pos ⟨ht, by omega, by omega, by omega⟩], h2⟩
      · cases h
theorem arrOne_spec {P : Program} {t : TypeId} {m : Nat} {e : TypeId} (h : arrOne P t = some (m, e)) : ∃ I, arrTI P t = some (m, I) ∧ I.size = 1 ∧ I.agg = false := by
  unfold arrOne at h
  split at h
  · rename_i m' e' hu
    split at h
    · rename_i I hI
      split at h
      · rename_i hc
        cases h
        simp only [Bool.and_eq_true, Bool.not_eq_true'] at hc
        exact ⟨I, by simp [arrTI, hu, hI], Nat.eq_of_beq_eq_true hc.1, hc.2⟩
      · cases h
    · cases h
  · cases h
theorem exOp_sound (hV : viewOK X.V) (hc : isCall o = none) (h : exOp X o K σ = some v) : stepK X.E o (fun σ' => K σ' = some v) σ := by
  obtain ⟨dst, op, ty, pos, af, g⟩ := o
  unfold exOp at h
  simp only at h
  split at h
  · rename_i s d x
    have hs : sideV X.E ⟨dst, .convert s d x, ty, pos, af, g⟩ σ := trivial
    split at h
    · rename_i ow sz es hx
      split at h
      · rename_i ht
        simp only [Bool.and_eq_true] at ht
        obtain ⟨h1, h2⟩ := chk_some h
        exact stepK_of (by simp only [stepV, pop, hx, Option.bind_some, convPV]; rw [if_pos ⟨ht.1, ht.2, h1⟩]; rfl) hs h2
      · cases h
    · exact exGen_sound hs h
  · rename_i t x i
    have hs : sideV X.E ⟨dst, .indexAddr t x i, ty, pos, af, g⟩ σ := trivial
    split at h
    · rename_i ow sz es k n hx hi
      unfold exIdx at h
      split at h
      · rename_i e I h1 h2
        split at h
        · rename_i hI
          obtain ⟨hn, p, hp, h⟩ := lgetX_some h
          have h := viewOK_some hV h
          exact stepK_of (by simp only [stepV, pop, hx, hi, h2, Option.map_some]; rw [if_pos ⟨by rw [hI], hn⟩, hp]; try rfl) hs h
        · cases h
      · cases h
    · rename_i cs k n hx hi
      split at h
      · rename_i m e ht
        obtain ⟨h1, h2⟩ := chk_some h
        obtain ⟨hn, p, hp, h⟩ := lgetX_some h2
        have h := viewOK_some hV h
        obtain ⟨I, hI, hsz, hag⟩ := arrOne_spec ht
        split at h
        · rename_i ho
          refine stepK_of (p := .cst p.un) (by
            simp only [stepV, pop, hx, hi, hI]
            rw [if_pos ⟨hn, by simpa using h1⟩]
            simp only [subVal, hsz, hag, Nat.mul_one, hp, Bool.false_eq_true, if_false, Option.bind_some, ho, if_true, Option.map_some]) hs h
        · cases h
      · exact exGen_sound hs h
    · exact exGen_sound hs h
  · rename_i t x i
    have hs : sideV X.E ⟨dst, .index t x i, ty, pos, af, g⟩ σ := trivial
    split at h
    · rename_i s k n hx hi
      split at h
      · rename_i ht
        obtain ⟨hn, b, hb, h⟩ := byteX_some h
        exact stepK_of (by simp only [stepV, pop, hx, hi]; rw [if_pos ⟨ht, hn⟩, hb]; try rfl) hs h
      · cases h
    · exact exGen_sound hs h
  · rename_i c a b
    have hs : sideV X.E ⟨dst, .pick c a b, ty, pos, af, g⟩ σ := trivial
    split at h
    · rename_i w hw
      cases w with
      | true =>
        have h : putO X.E dst (σ.rd a) K σ = some v := h
        cases ha : σ.rd a with
        | none => rw [ha] at h; cases h
        | some p =>
          rw [ha] at h
          exact stepK_of (by simp only [stepV, pop, hw, ha]; try rfl) hs h
      | false =>
        have h : putO X.E dst (σ.rd b) K σ = some v := h
        cases ha : σ.rd b with
        | none => rw [ha] at h; cases h
        | some p =>
          rw [ha] at h
          exact stepK_of (by simp only [stepV, pop, hw, ha]; try rfl) hs h
    · cases h
  · rename_i t x lo hi
    have hs : sideV X.E ⟨dst, .slice t x lo hi none, ty, pos, af, g⟩ σ := trivial
    split at h
    · rename_i ow sz es hx
      split at h
      · rename_i I hI
        split at h
        · rename_i hz
          obtain ⟨p, h1, h2⟩ := sliceL_sound hI hz hx h
          exact stepK_of (by simp only [stepV, h1, Option.map_some]; try rfl) hs h2
        · cases h
      · cases h
    · rename_i s hx
      split at h
      · rename_i ht
        obtain ⟨p, h1, h2⟩ := sliceS_sound ht hx h
        exact stepK_of (by simp only [stepV, h1, Option.map_some]; try rfl) hs h2
      · cases h
    · exact exGen_sound hs h
  · rename_i bop t x y t'
    have hs : sideV X.E ⟨dst, .binOp bop t x y t', ty, pos, af, g⟩ σ := trivial
    split at h
    · rename_i k a k' b hx hy
      unfold exDiv at h
      split at h
      · rename_i e
        obtain ⟨h1, h2⟩ := chk_some h
        have h1 : b ≠ 0 := by simpa using h1
        exact stepK_of (by simp only [stepV, pop, hx, hy, binPV, if_pos e, intBin, if_neg h1]; try rfl) hs h2
      · cases h
    · rename_i k a k' b hx hy
      unfold exDiv at h
      split at h
      · rename_i e
        obtain ⟨h1, h2⟩ := chk_some h
        have h1 : b ≠ 0 := by simpa using h1
        exact stepK_of (by simp only [stepV, pop, hx, hy, binPV, if_pos e, intBin, if_neg h1]; try rfl) hs h2
      · cases h
    · rename_i k a k' b hx hy
      obtain ⟨h1, h2⟩ := chk_some h
      have h1 : ¬ b < 0 := by simpa using h1
      exact stepK_of (by simp only [stepV, pop, hx, hy, binPV, shiftBin, if_neg h1]; try rfl) hs h2
    · rename_i k a k' b hx hy
      obtain ⟨h1, h2⟩ := chk_some h
      have h1 : ¬ b < 0 := by simpa using h1
      exact stepK_of (by simp only [stepV, pop, hx, hy, binPV, shiftBin, if_neg h1]; try rfl) hs h2
    · rename_i a b hx hy
      obtain ⟨h1, h2⟩ := chk_some h
      have h1 := of_decide_eq_true h1
      exact stepK_of (by simp only [stepV, pop, hx, hy, binPV, strBin, if_pos h1]; try rfl) hs h2
    · exact exGen_sound hs h
  · rename_i c
    split at h
    · rename_i hca
      split at h
      · rename_i s x hxs
        split at h
        · rename_i o1 z1 es o2 z2 es' he hx
          obtain ⟨h1, h2⟩ := chk_some h
          exact exGen_sound (by simp only [sideV, hca, hxs, he, hx]; exact of_decide_eq_true h1) h2
        · cases h
      · cases h
    · rename_i hnot hca
      refine exGen_sound ?_ h
      simp only [sideV, hca]
      split
      · rename_i e; injection e with e; exact absurd e hnot
      · trivial
    · cases h
  · refine exGen_sound (side_no (fun c e => ?_) _) h
    rename_i hnc
    exact hnc c e
/-- The calls say what is so. -/
def calOK (P : Program) (C : Cal) : Prop := ∀ g args h r h', C g args h = some (r, h') → Ev P g args h r h'
theorem argT_reps {M : Mem} {B : Blk} {P : Program} : ∀ {ts : List TypeId} {ps : List PV} {vs : List Value}, Reps M B ps vs → Reps M B (argT P ts ps) vs
  | [], ps, vs, h => by cases ps <;> exact h
  | t :: ts, [], vs, h => h
  | t :: ts, p :: ps, vs, h => by
    obtain ⟨u, us, rfl, h1, h2⟩ := reps_cons.1 h
    exact reps_cons.2 ⟨u, us, rfl, rep_reszT _ h1, argT_reps h2⟩
theorem reps_split {M : Mem} {B : Blk} : ∀ {ps qs : List PV} {vs : List Value}, Reps M B (ps ++ qs) vs → ∃ us ws, vs = us ++ ws ∧ Reps M B ps us ∧ Reps M B qs ws
  | [], qs, vs, h => ⟨[], vs, rfl, reps_nil.2 rfl, h⟩
  | p :: ps, qs, vs, h => by
    obtain ⟨u, us, rfl, h1, h2⟩ := reps_cons.1 h
    obtain ⟨a, b, rfl, h3, h4⟩ := reps_split h2
    exact ⟨u :: a, b, rfl, reps_cons.2 ⟨u, a, rfl, h1, h3⟩, h4⟩
/-- A contract serves for all arguments that are seen so. -/
theorem Ev.args {P : Program} {g : FuncId} {as as' : List PV} {h : Objs} {r : PV} {h' : Objs} (k : Ev P g as' h r h') (hr : ∀ (M : Mem) (B : Blk) (vs : List Value), Reps M B as vs → Reps M B as' vs) : Ev P g as h r h' :=
  ⟨k.1, fun out M B w vals h1 h2 h3 h4 h5 => k.2 out M B w vals h1 h2 h3 h4 (hr _ _ _ h5)⟩
theorem argT_flat {P : Program} : ∀ {ts : List TypeId} {ps : List PV}, PV.flats (argT P ts ps) = PV.flats ps
  | [], ps => by cases ps <;> rfl
  | t :: ts, [] => rfl
  | t :: ts, p :: ps => by
    have h1 : ∀ z (p : PV), (p.resz z).flat = p.flat := fun z p => by cases p <;> rfl
    have h2 : ∀ zs (cs : List PV), PV.flats (reszC zs cs) = PV.flats cs := by
      intro zs
      induction zs with
      | nil => intro cs; cases cs <;> rfl
      | cons z zs ih =>
        intro cs
        cases cs with
        | nil => rfl
        | cons c cs => rw [reszC, PV.flats, PV.flats, h1, ih]
    have h3 : (p.reszT (cellSz P 8 t)).flat = p.flat := by
      cases p with
      | agg cs => simp only [PV.reszT, PV.flat, h2]
      | _ => simp only [PV.reszT, h1]
    rw [argT, PV.flats, PV.flats, h3, argT_flat]
theorem flats_app : ∀ {a b : List PV}, PV.flats (a ++ b) = (PV.flats a && PV.flats b)
  | [], b => by simp [PV.flats]
  | p :: a, b => by simp [PV.flats, flats_app (a := a), Bool.and_assoc]
theorem exCall_some (hW : outOK X.W) (hC : calOK X.E.P X.C) {f : Operand} {args : List Operand} (h : exCall X true o f args K σ = some v) :
    ∃ g first caps as r, σ.rd f = some (.func (.func g) first caps) ∧ allSome (args.map σ.rd) = some as ∧ PV.flats (first ++ as ++ caps) = true ∧ Ev X.E.P g (first ++ as ++ caps) [] r [] ∧ r.flat = true ∧ putX X.E o.dst r K σ = some v := by
  unfold exCall at h
  split at h
  · rename_i g first caps as hf ha
    split at h
    · rename_i hfl
      unfold clX at h
      split at h
      · rename_i r hr
        have h := outOK_some hW h
        split at h
        · rename_i hrf
          refine ⟨g, first, caps, as, r, hf, ha, by rw [flats_app, flats_app, argT_flat] at hfl; rw [flats_app, flats_app]; exact hfl, (hC _ _ _ _ _ hr).args fun M B vs hv => ?_, hrf, h⟩
          obtain ⟨a1, a2, rfl, h1, h2⟩ := reps_split hv
          obtain ⟨a3, a4, rfl, h3, h4⟩ := reps_split h1
          exact reps_append (reps_append h3 (argT_reps h4)) h2
        · cases h
      · cases h
    · cases h
  · cases h
theorem exCall_any (hW : outOK X.W) (hC : calOK X.E.P X.C) {f : Operand} {args : List Operand} (h : exCall X false o f args K σ = some v) :
    ∃ g first caps as, σ.rd f = some (.func (.func g) first caps) ∧ allSome (args.map σ.rd) = some as ∧ callK X.E g (first ++ as ++ caps) o.dst (fun σ' => K σ' = some v) σ := by
  by_cases ht : exCall X true o f args K σ = some v
  · obtain ⟨g, first, caps, as, r, hf, ha, hfl, he, hrf, h2⟩ := exCall_some hW hC ht
    exact ⟨g, first, caps, as, hf, ha, callK_pure he hrf hfl (putX_sound h2)⟩
  unfold exCall at h ht
  split at h
  · rename_i g first caps as hf ha
    simp only [hf, ha] at ht
    split at h
    · rename_i hfl; simp only [hfl] at ht; exact absurd h ht
    · refine ⟨g, first, caps, as, hf, ha, ?_⟩
      clear ht
      simp only [exCallH] at h
      split at h
      · rename_i hok
        unfold clH at h
        split at h
        · rename_i r h' hr
          have h := outOK_some hW h
          simp only [subOK, Bool.and_eq_true] at hok
          obtain ⟨k1, k2, k3, k4⟩ := hok
          have he := (Ev.sub (hC _ _ _ _ _ hr) k1 (fun i hi => by
            have := List.all_eq_true.1 k2 i hi
            simpa [Nat.blt_eq] using this) k3 (fun i cs hi hcs => by
            have := List.all_eq_true.1 k4 i hi
            rw [getO_some.2 hcs] at this; exact this)).args (as := first ++ as ++ caps) fun M B vs hv => by
              obtain ⟨a1, a2, rfl, h1, h2⟩ := reps_split hv
              obtain ⟨a3, a4, rfl, h3, h4⟩ := reps_split h1
              exact reps_append (reps_append h3 (argT_reps h4)) h2
          exact ⟨_, _, he, putX_sound h⟩
        · cases h
      · cases h
  · cases h
theorem ex1_sound (hV : viewOK X.V) (hW : outOK X.W) (hC : calOK X.E.P X.C) (h : ex1 X false o K σ = some v) : awpOp X.E o (fun σ' => K σ' = some v) σ := by
  unfold ex1 at h
  split at h
  · rename_i f args hc
    obtain ⟨g, first, caps, as, hf, ha, h2⟩ := exCall_any hW hC h
    clear h
    obtain ⟨dst, op, type, pos, after, guard⟩ := o
    cases op <;> simp [isCall] at hc
    rename_i c
    obtain ⟨callee, cargs, ts⟩ := c
    cases callee <;> simp at hc
    obtain ⟨rfl, rfl⟩ := hc
    simp only [awpOp, hf, ha]
    exact h2
  · rename_i hc
    rw [awpOp_step hc]
    exact exOp_sound hV hc h
theorem ex1_soundD (hV : viewOK X.V) (hW : outOK X.W) (hC : calOK X.E.P X.C) (h : ex1 X true o K σ = some v) : awpOpD X.E o (fun σ' => K σ' = some v) σ := by
  unfold ex1 at h
  unfold awpOpD
  split at h
  · rename_i f args hc
    obtain ⟨g, first, caps, as, r, hf, ha, hfl, he, hrf, h⟩ := exCall_some hW hC h
    simp only [hc, hf, ha]
    exact callKD_pure he hrf hfl (putX_sound h)
  · rename_i hc
    simp only [hc]
    exact exOp_sound hV hc h
theorem lit_get {d : Nat} {b : Bool} (h : sget d σ.s = some (.bool b)) : σ.lit d b = σ := by unfold ASt.lit; rw [slit_eq h]
theorem exOps_sound (hV : viewOK X.V) (hW : outOK X.W) (hC : calOK X.E.P X.C) : ∀ (l : List Oper) {K : ASt → R} {σ : ASt}, exOps X false ops l K σ = some v → awpOps X.E ops l (fun σ' => K σ' = some v) σ
  | [], K, σ, h => h
  | o :: l, K, σ, h => by
    have ih : ∀ σ, exOps X false ops l K σ = some v → awpOps X.E ops l (fun σ' => K σ' = some v) σ := fun σ h => exOps_sound hV hW hC l h
    rw [exOps] at h
    rw [awpOps]
    split at h
    · rename_i hg
      simp only [hg]
      exact awpOp_mono ih (ex1_sound hV hW hC h)
    · rename_i j want hg
      simp only [hg, gval]
      split at h
      · rename_i hd
        simp only [hd]
        exact thenPut_mono ih (putX_sound h)
      · rename_i d hd
        simp only [hd]
        split at h
        · rename_i b hb
          simp only [hb]
          have key : exGd X false o d want b (exOps X false ops l K) σ = some v := by
            cases b
            · exact h
            · exact h
          unfold exGd at key
          split at key
          · rename_i e
            have e : b = want := by simpa using e
            rw [lit_get hb] at key
            exact ⟨fun _ => awpOp_mono ih (ex1_sound hV hW hC key), fun h => absurd e h⟩
          · rename_i e
            have e : b ≠ want := by simpa using e
            rw [lit_get hb] at key
            exact ⟨fun h => absurd h e, fun _ => thenPut_mono ih (putX_sound key)⟩
        · rename_i hb
          simp only [hb]
          exact thenPut_mono ih (putX_sound h)
        · cases h
theorem exOps_soundD (hV : viewOK X.V) (hW : outOK X.W) (hC : calOK X.E.P X.C) : ∀ (l : List Oper) {K : ASt → R} {σ : ASt}, exOps X true ops l K σ = some v → awpOpsD X.E ops l (fun σ' => K σ' = some v) σ
  | [], K, σ, h => h
  | o :: l, K, σ, h => by
    have ih : ∀ σ, exOps X true ops l K σ = some v → awpOpsD X.E ops l (fun σ' => K σ' = some v) σ := fun σ h => exOps_soundD hV hW hC l h
    rw [exOps] at h
    rw [awpOpsD]
    split at h
    · rename_i hg
      simp only [hg]
      exact awpOpD_mono ih (ex1_soundD hV hW hC h)
    · rename_i j want hg
      simp only [hg, gval]
      split at h
      · rename_i hd
        simp only [hd]
        exact thenPut_mono ih (putX_sound h)
      · rename_i d hd
        simp only [hd]
        split at h
        · rename_i b hb
          simp only [hb]
          have key : exGd X true o d want b (exOps X true ops l K) σ = some v := by
            cases b
            · exact h
            · exact h
          unfold exGd at key
          split at key
          · rename_i e
            have e : b = want := by simpa using e
            rw [lit_get hb] at key
            exact ⟨fun _ => awpOpD_mono ih (ex1_soundD hV hW hC key), fun h => absurd e h⟩
          · rename_i e
            have e : b ≠ want := by simpa using e
            rw [lit_get hb] at key
            exact ⟨fun h => absurd h e, fun _ => thenPut_mono ih (putX_sound key)⟩
        · rename_i hb
          simp only [hb]
          exact thenPut_mono ih (putX_sound h)
        · cases h
/-- The loops end after some rounds. -/
def lopOK (X : XE) : Prop := ∀ l m x (K : AX → ASt → R) σ v, X.L l m x K (σ.gc l m) = some v → loopK X.m0 (awp X.E X.m0 x) (fun e σ' => K e σ' = some v) σ
theorem exK_sound (hV : viewOK X.V) (hW : outOK X.W) (hC : calOK X.E.P X.C) (hL : lopOK X) : ∀ (c : Code) {K : AX → ASt → R} {σ : ASt}, exK X c K σ = some v → awp X.E X.m0 c (fun e σ' => K e σ' = some v) σ
  | .skip, K, σ, h => h
  | .label _, K, σ, h => h
  | .exit _, K, σ, h => h
  | .ret, K, σ, h => h
  | .region _ ops draw, K, σ, h => by
    simp only [exK] at h
    rw [awp]
    cases draw with
    | false => exact exOps_sound hV hW hC _ h
    | true =>
      cases hok : okD X.E ops with
      | true =>
        simp only [hok] at h
        exact ⟨hok, exOps_soundD hV hW hC _ h⟩
      | false => simp [hok] at h
  | .seq x y, K, σ, h => by
    simp only [exK] at h
    rw [awp]
    refine awp_mono x (fun e σ' he => ?_) (exK_sound hV hW hC hL x h)
    cases e with
    | normal =>
      have he : joinX X.E X.m0 y (exK X y K) σ' = some v := he
      unfold joinX at he
      cases hl : X.E.jt.lookup (rid y) with
      | none => rw [hl] at he; exact .inl (exK_sound hV hW hC hL y he)
      | some l =>
        rw [hl] at he
        simp only at he
        split at he
        · rename_i hg
          simp only [Bool.and_eq_true, decide_eq_true_eq] at hg
          exact .inr ⟨l, _, hg.1, hg.2, exK_sound hV hW hC hL y he⟩
        · cases he
    | ret => exact he
    | exit i => exact he
  | .cond c x y, K, σ, h => by
    simp only [exK] at h
    rw [awp]
    split at h
    · rename_i b hb
      simp only [hb]
      split at h
      · rename_i d
        cases b with
        | true =>
          have h : exK X x K (σ.lit d true) = some v := h
          rw [rd_bool hb] at h
          exact ⟨fun _ => exK_sound hV hW hC hL x h, fun e => by cases e⟩
        | false =>
          have h : exK X y K (σ.lit d false) = some v := h
          rw [rd_bool hb] at h
          exact ⟨fun e => (by cases e), fun _ => exK_sound hV hW hC hL y h⟩
      · cases b with
        | true => exact ⟨fun _ => exK_sound hV hW hC hL x h, fun e => by cases e⟩
        | false => exact ⟨fun e => (by cases e), fun _ => exK_sound hV hW hC hL y h⟩
    · cases h
  | .block id x, K, σ, h => by
    simp only [exK] at h
    rw [awp]
    refine awp_mono x (fun e σ' he => ?_) (exK_sound hV hW hC hL x h)
    cases e with
    | normal => exact he
    | ret => exact he
    | exit i =>
      simp only [blkK] at he
      simp only [blockA]
      split at he
      · rename_i e; rw [if_pos e]; exact he
      · rename_i e; rw [if_neg e]; exact he
  | .scope x, K, σ, h => by
    simp only [exK] at h
    rw [awp]
    exact exK_sound hV hW hC hL x h
  | .loop x, K, σ, h => by
    simp only [exK] at h
    rw [awp]
    exact hL _ _ _ _ _ _ h
  | .rangeFunc _ _ _ _, K, σ, h => by simp [exK] at h
  | .goto _, K, σ, h => by simp [exK] at h
  | .refuse _, K, σ, h => by simp [exK] at h
end
end Go.Proofs.Ytmclnnpaephkpaa
