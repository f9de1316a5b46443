/-
  The operations on values alone: the model's run yields what the abstract evaluator says.
-/
import Derived.Test.YtmclnnpaephkpaaAbD
namespace Go.Proofs.Ytmclnnpaephkpaa
set_option linter.unusedVariables false
set_option linter.unusedSimpArgs false
set_option linter.unnecessarySimpa false
set_option linter.unusedSectionVars false
open Go.RowKit

section
variable {P : Program} {M : Mem} {B : Blk}
theorem reps_take_drop {cs : List PV} {vs : List Value} (h : Reps M B cs vs) (o z : Nat) : Reps M B ((cs.drop o).take z) ((vs.drop o).take z) := by
  have hl := reps_length h
  refine reps_of (by simp [hl]) fun j p u hp hu => ?_
  rw [List.getElem?_take] at hp hu
  split at hp
  · rename_i hj
    rw [if_pos hj] at hu
    rw [List.getElem?_drop] at hp hu
    obtain ⟨u', h1, h2⟩ := reps_get h hp
    rw [h1] at hu; cases hu; exact h2
  · cases hp
theorem extract_toList (cs : Array Value) (o z : Nat) : (cs.extract o (o + z)).toList = (cs.toList.drop o).take z := by
  simp [Array.toList_extract, List.extract_eq_take_drop]
theorem un_one (p : PV) : p.un.one = p.one := by cases p <;> rfl
theorem subVal_rep {cs : List PV} {vs : Array Value} (h : Reps M B cs vs.toList) {t : TypeId} {I : TI} {i : TypeInfo} {zv : Value} {d : TypeDesc} (hT : TIs P t I i zv d) {o : Nat} {p : PV} (hs : subVal cs o I.size I.agg = some p) (w : World) :
    ∃ v, (part t vs o).run P w = .ok v w ∧ Rep M B p v ∧ p.own = false := by
  unfold subVal at hs
  unfold part
  rw [Sem.run_bind, hT.run_isAgg w]
  split at hs
  · rename_i hg
    split at hs
    · cases hs
      simp only [hg, if_true, Result.andThen_ok, Sem.run_bind, hT.run_sizeOf w, Sem.run_pure]
      exact ⟨_, rfl, rep_agg.2 ⟨_, rfl, by rw [extract_toList]; exact reps_take_drop h _ _⟩, rfl⟩
    · cases hs
  · rename_i hg
    cases hc : cs[o]? with
    | none => simp [hc] at hs
    | some q =>
      simp only [hc, Option.bind_some] at hs
      split at hs
      · cases hs
        obtain ⟨u, hu, hr⟩ := reps_get h hc
        have hu' : vs[o]? = some u := by simpa using hu
        have hg' : I.agg = false := by simpa using hg
        simp only [hg', Bool.false_eq_true, if_false, Result.andThen_ok, hu']
        exact ⟨u, rfl, rep_un.2 hr, un_own q⟩
      · cases hs
theorem loc_of_one {p : PV} (h1 : p.one = true) {b o : Nat} : Loc M B p b o ↔ ∃ u, M b o = some u ∧ Rep M B p u :=
  loc_one (by cases p <;> first | rfl | (simp [PV.one] at h1)) (fun cs e => by subst e; simp [PV.one] at h1)
theorem subVal_loc {cs : List PV} {b off : Nat} (h : Cells M B cs b off) {o z : Nat} {g : Bool} {p : PV} (hs : subVal cs o z g = some p) : Loc M B p b (off + o) := by
  unfold subVal at hs
  split at hs
  · split at hs
    · cases hs
      refine loc_agg.2 (cells_of fun j q hq => ?_)
      rw [List.getElem?_take] at hq
      split at hq
      · rw [List.getElem?_drop] at hq
        have := cells_get h hq
        rwa [show off + (o + j) = off + o + j by omega] at this
      · cases hq
    · cases hs
  · cases hc : cs[o]? with
    | none => simp [hc] at hs
    | some q =>
      simp only [hc, Option.bind_some] at hs
      split at hs
      · rename_i h1
        cases hs
        rw [loc_un]
        exact (loc_of_one h1).2 (cells_get h hc)
      · cases hs
theorem add_lit (b o k : Nat) : (⟨b, o, none⟩ : Addr).add k = ⟨b, o + k, none⟩ := by unfold Addr.add; split <;> simp_all
theorem subAddr_rep {q : PV} {v : Value} (hq : Rep M B q v) {s : TypeId} {fs : List (Nat × Nat × Bool)} (hf : fieldsOf P s = some fs) {f o z : Nat} {g : Bool} (hj : fs[f]? = some (o, z, g)) (hz : z ≠ 0) {p : PV} (hs : subAddr q o z g = some p) (w : World) :
    ∃ u, (Instr.fieldAt s v f).run P w = .ok u w ∧ Rep M B p u ∧ p.own = false := by
  obtain ⟨Fs, F, I, i, zv, d, hu, hF, ho, hT, hsz, hg⟩ := fields_spec hf hj
  subst ho; subst hsz; subst hg
  have run : ∀ b off, (Instr.fieldAt s (.pointer (some ⟨b, off, none⟩)) f).run P w = .ok (.pointer (some ⟨b, off + F.offset, none⟩)) w := fun b off => by
    simp [Instr.fieldAt, run_underlying hu, hF, Instr.sureAddr, fieldPlace, hT.run_sizeOf w, hz, add_lit]
  unfold subAddr at hs
  split at hs
  · rename_i i off
    cases hs
    obtain ⟨c, hc, rfl⟩ := rep_ptr.1 hq
    exact ⟨_, run _ _, rep_ptr.2 ⟨c, hc, rfl⟩, rfl⟩
  · rename_i cs
    cases hv : subVal cs F.offset I.size I.agg with
    | none => simp [hv] at hs
    | some r =>
      simp [hv] at hs; subst hs
      obtain ⟨b, off, rfl, hl⟩ := rep_cst.1 hq
      exact ⟨_, run _ _, rep_cst.2 ⟨b, _, rfl, subVal_loc (loc_agg.1 hl) hv⟩, rfl⟩
  · cases hs
theorem intBin_run {op : BinOp} {k : IntKind} {a b : Int} {p : PV} (h : intBin op k a b = some p) (hop : op ≠ .shl ∧ op ≠ .shr) (t : TypeId) (w : World) :
    ∃ v, (binOp op t (.int k a) (.int k b)).run P w = .ok v w ∧ Rep M B p v ∧ p.own = false := by
  cases op <;> simp only [intBin, reduceCtorEq] at h <;> first
    | (cases h; exact ⟨_, by simp [binOp, Op.intArith, Op.intBits, Op.intCmp]; first | rfl | done, by first | exact rep_int.2 rfl | exact rep_bool.2 rfl, rfl⟩)
    | (split at h
       · cases h
       · rename_i h0; cases h; exact ⟨_, by simp [binOp, Op.intDiv, h0]; first | rfl | done, by first | exact rep_int.2 rfl | exact rep_bool.2 rfl, rfl⟩)
    | (exact absurd rfl hop.1)
    | (exact absurd rfl hop.2)
theorem shiftBin_run {op : BinOp} {k k' : IntKind} {a b : Int} {p : PV} (h : shiftBin op k a b = some p) (t : TypeId) (w : World) :
    ∃ v, (binOp op t (.int k a) (.int k' b)).run P w = .ok v w ∧ Rep M B p v ∧ p.own = false := by
  unfold shiftBin at h
  split at h
  · cases h
  · rename_i hb
    cases op <;> simp only [reduceCtorEq] at h
    · cases h; exact ⟨_, by simp [binOp, Op.shift, hb], rep_int.2 rfl, rfl⟩
    · cases h; exact ⟨_, by simp [binOp, Op.shift, hb], rep_int.2 rfl, rfl⟩
theorem strBin_run {op : BinOp} {a b : ByteArray} {p : PV} (h : strBin op a b = some p) (t : TypeId) (w : World) :
    ∃ v, (binOp op t (.string a) (.string b)).run P w = .ok v w ∧ Rep M B p v ∧ p.own = false := by
  cases op <;> simp only [strBin, reduceCtorEq] at h
  · split at h
    · rename_i hl
      cases h
      have h' : ¬ (((a.size + b.size : Nat) : Int) > IntKind.i64.max) := by
        have : IntKind.i64.max = 9223372036854775807 := by decide
        rw [this]; unfold LIM at hl; omega
      refine ⟨_, ?_, rep_str.2 rfl, rfl⟩
      simp only [binOp, Op.stringOp, if_neg h']
      rfl
    · cases h
  · cases h; exact ⟨_, rfl, rep_bool.2 rfl, rfl⟩
  · cases h; exact ⟨_, rfl, rep_bool.2 rfl, rfl⟩
theorem eqGuard_run {op : BinOp} {t : TypeId} {x y : Operand} {a b : Value} (ha : a ≠ .nilIface ∧ ∀ cs, a ≠ .agg cs) (w : World) : (eqGuard op t x y a b).run P w = .ok () w := by
  cases a with
  | nilIface => exact absurd rfl ha.1
  | agg cs => exact absurd rfl (ha.2 cs)
  | _ => cases op <;> simp [eqGuard]
theorem eqIn_bool {t : TypeId} (h : P.underlying t = some .bool) (d : Nat) (a b : Bool) (w : World) : (Op.equalIn (d + 1) t (.bool a) (.bool b)).run P w = .ok (a == b) w := by
  rw [Op.equalIn, Sem.run_bind, run_underlying h w]; rfl
theorem eqIn_ptr_some {t e : TypeId} (h : P.underlying t = some (.pointer e)) (d : Nat) (a : Addr) (w : World) : (Op.equalIn (d + 1) t (.pointer (some a)) (.pointer none)).run P w = .ok false w := by
  rw [Op.equalIn, Sem.run_bind, run_underlying h w]; rfl
theorem eqIn_ptr_none {t e : TypeId} (h : P.underlying t = some (.pointer e)) (d : Nat) (w : World) : (Op.equalIn (d + 1) t (.pointer none) (.pointer none)).run P w = .ok true w := by
  rw [Op.equalIn, Sem.run_bind, run_underlying h w]; rfl
theorem eqIn_fn_some {t : TypeId} {x y : Array TypeId} {z : Bool} (h : P.underlying t = some (.func x y z)) (d : Nat) (f : Fn) (a b : Array Value) (w : World) : (Op.equalIn (d + 1) t (.func f a b) .nilFunc).run P w = .ok false w := by
  rw [Op.equalIn, Sem.run_bind, run_underlying h w]; rfl
theorem eqIn_fn_none {t : TypeId} {x y : Array TypeId} {z : Bool} (h : P.underlying t = some (.func x y z)) (d : Nat) (w : World) : (Op.equalIn (d + 1) t .nilFunc .nilFunc).run P w = .ok true w := by
  rw [Op.equalIn, Sem.run_bind, run_underlying h w]; rfl
theorem equal_of {t : TypeId} {a b : Value} {r : Bool} {w : World} (h : ∀ d, (Op.equalIn (d + 1) t a b).run P w = .ok r w) : (Op.equal t a b).run P w = .ok r w := h 9999
theorem und_of {t : TypeId} {f : TypeDesc → Bool} (h : (match P.underlying t with | some d => f d | none => false) = true) : ∃ d, P.underlying t = some d ∧ f d = true := by
  split at h
  · rename_i d hd; exact ⟨d, hd, h⟩
  · cases h
theorem isBoolT_spec {t : TypeId} (h : isBoolT P t = true) : P.underlying t = some .bool := by
  unfold isBoolT at h; split at h
  · assumption
  · cases h
theorem isStrT_spec {t : TypeId} (h : isStrT P t = true) : P.underlying t = some .string := by
  unfold isStrT at h; split at h
  · assumption
  · cases h
theorem isPtrT_spec {t : TypeId} (h : isPtrT P t = true) : ∃ e, P.underlying t = some (.pointer e) := by
  unfold isPtrT at h; split at h
  · rename_i e he; exact ⟨e, he⟩
  · cases h
theorem isFuncT_spec {t : TypeId} (h : isFuncT P t = true) : ∃ a b c, P.underlying t = some (.func a b c) := by
  unfold isFuncT at h; split at h
  · rename_i a b c he; exact ⟨a, b, c, he⟩
  · cases h
theorem nilBin_run {op : BinOp} {is : Bool} {p : PV} (h : nilBin op is = some p) {t : TypeId} {a b : Value} {w : World} (he : (Op.equal t a b).run P w = .ok is w)
    (hab : ∀ op, op = .eql ∨ op = .neq → binOp op t a b = (if op = .eql then do pure (.bool (← Op.equal t a b)) else do pure (.bool (!(← Op.equal t a b))))) :
    ∃ v, (binOp op t a b).run P w = .ok v w ∧ Rep M B p v ∧ p.own = false := by
  cases op <;> simp only [nilBin, reduceCtorEq] at h
  · cases h; rw [hab _ (.inl rfl)]; exact ⟨.bool is, by simp [he], rep_bool.2 rfl, rfl⟩
  · cases h; rw [hab _ (.inr rfl)]; exact ⟨.bool (!is), by simp [he], rep_bool.2 rfl, rfl⟩
theorem eqFs_run {d : Nat} {E : TypeId → PV → PV → Option Bool} (hE : ∀ t x y r, E t x y = some r → ∀ a b, Rep M B x a → Rep M B y b → ∀ w, (Op.equalIn d t a b).run P w = .ok r w) {cs ds : List PV} {xs ys : Array Value} (hx : Reps M B cs xs.toList) (hy : Reps M B ds ys.toList) (w : World) :
    ∀ (fs : List Field) (r : Bool), eqFs P E cs ds fs = some r → (Op.eqFields d xs ys fs).run P w = .ok r w
  | [], r, h => by simp [eqFs] at h; subst h; rfl
  | f :: fs, r, h => by
    rw [eqFs] at h
    split at h
    · cases h
    · rename_i hn
      split at h
      · rename_i I hI
        split at h
        · rename_i p q hp hq
          split at h
          · rename_i b r' hb hr
            injection h with h; subst h
            obtain ⟨i, z, dd, hT⟩ := ti_spec hI
            obtain ⟨u, h1, h2, _⟩ := subVal_rep hx hT hp w
            obtain ⟨v, h3, h4, _⟩ := subVal_rep hy hT hq w
            have h5 := hE _ _ _ _ hb u v h2 h4 w
            have ih := eqFs_run hE hx hy w fs r' hr
            rw [Op.eqFields, if_pos hn]
            simp only [Sem.run_bind, h1, h3, h5, Result.andThen_ok]
            cases b
            · rfl
            · simpa using ih
          · cases h
        · cases h
      · cases h
theorem eqPV_run : ∀ (k d : Nat) (t : TypeId) (x y : PV) (r : Bool), eqPV P k t x y = some r → ∀ a b, Rep M B x a → Rep M B y b → ∀ w, (Op.equalIn (d + k) t a b).run P w = .ok r w
  | 0, d, t, x, y, r, h, a, b, ha, hb, w => by rw [eqPV] at h; cases h
  | k + 1, d, t, x, y, r, h, a, b, ha, hb, w => by
    unfold eqPV at h
    split at h
    · rename_i hu
      split at h
      · rename_i e; subst e
        injection h with h; subst h
        rw [rep_int.1 ha, rep_int.1 hb]
        exact run_equalIn_int w (d + k) t _ _ _ _ hu
      · cases h
    · rename_i hu
      injection h with h; subst h
      rw [rep_bool.1 ha, rep_bool.1 hb]
      exact run_equalIn_bool w (d + k) t _ _ hu
    · rename_i hu
      injection h with h; subst h
      rw [rep_str.1 ha, rep_str.1 hb]
      exact run_equalIn_string w (d + k) t _ _ hu
    · rename_i fs cs ds hu
      by_cases hst : P.stoodInHeld t = true
      · rw [if_pos hst] at h; cases h
      · rw [if_neg hst] at h
        obtain ⟨xs, rfl, hx⟩ := rep_agg.1 ha
        obtain ⟨ys, rfl, hy⟩ := rep_agg.1 hb
        have hf : P.fieldsOf t = fs := by simp [Program.fieldsOf, hu]
        rw [show d + (k + 1) = (d + k) + 1 from rfl, run_equalIn_struct w (d + k) t xs ys (by rw [hf]; exact hu) (by simpa using hst), hf]
        exact eqFs_run (fun t x y r h a b ha hb w => eqPV_run k d t x y r h a b ha hb w) hx hy w fs.toList r h
    · cases h
theorem bin_run {op : BinOp} {t : TypeId} {x y p : PV} (h : binPV P op t x y = some p) {a b : Value} (ha : Rep M B x a) (hb : Rep M B y b) (w : World) :
    (∀ X Y : Operand, (eqGuard op t X Y a b).run P w = .ok () w) ∧ ∃ v, (binOp op t a b).run P w = .ok v w ∧ Rep M B p v ∧ p.own = false := by
  unfold binPV at h
  split at h
  · rename_i k a' k' b'
    rw [rep_int.1 ha, rep_int.1 hb]
    refine ⟨fun _ _ => eqGuard_run ⟨by simp, by simp⟩ w, ?_⟩
    split at h
    · exact shiftBin_run h t w
    · exact shiftBin_run h t w
    · rename_i h1 h2
      split at h
      · rename_i e; subst e; exact intBin_run h ⟨fun e => h1 e, fun e => h2 e⟩ t w
      · cases h
  · rw [rep_str.1 ha, rep_str.1 hb]; exact ⟨fun _ _ => eqGuard_run ⟨by simp, by simp⟩ w, strBin_run h t w⟩
  · rename_i a' b'
    rw [rep_bool.1 ha, rep_bool.1 hb]
    refine ⟨fun _ _ => eqGuard_run ⟨by simp, by simp⟩ w, ?_⟩
    split at h
    · rename_i ht
      have hu := isBoolT_spec ht
      have he : (Op.equal t (.bool a') (.bool b')).run P w = .ok (a' == b') w := equal_of fun d => eqIn_bool hu d a' b' w
      refine nilBin_run (is := a' == b') ?_ he (fun op ho => by rcases ho with rfl | rfl <;> rfl)
      unfold boolBin at h; unfold nilBin; exact h
    · cases h
  · obtain ⟨c, hc, rfl⟩ := rep_ptr.1 ha
    rw [rep_nilp.1 hb]
    refine ⟨fun _ _ => eqGuard_run ⟨by simp, by simp⟩ w, ?_⟩
    split at h
    · rename_i ht
      obtain ⟨e, hu⟩ := isPtrT_spec ht
      refine nilBin_run h (equal_of fun d => eqIn_ptr_some hu d _ w) (fun op ho => by rcases ho with rfl | rfl <;> rfl)
    · cases h
  · obtain ⟨b', off, rfl, _⟩ := rep_cst.1 ha
    rw [rep_nilp.1 hb]
    refine ⟨fun _ _ => eqGuard_run ⟨by simp, by simp⟩ w, ?_⟩
    split at h
    · rename_i ht
      obtain ⟨e, hu⟩ := isPtrT_spec ht
      refine nilBin_run h (equal_of fun d => eqIn_ptr_some hu d _ w) (fun op ho => by rcases ho with rfl | rfl <;> rfl)
    · cases h
  · rw [rep_nilp.1 ha, rep_nilp.1 hb]
    refine ⟨fun _ _ => eqGuard_run ⟨by simp, by simp⟩ w, ?_⟩
    split at h
    · rename_i ht
      obtain ⟨e, hu⟩ := isPtrT_spec ht
      refine nilBin_run h (equal_of fun d => eqIn_ptr_none hu d w) (fun op ho => by rcases ho with rfl | rfl <;> rfl)
    · cases h
  · obtain ⟨f, c, rfl, _, _⟩ := rep_func.1 ha
    rw [(rep_raw.1 hb).1]
    refine ⟨fun _ _ => eqGuard_run ⟨by simp, by simp⟩ w, ?_⟩
    split at h
    · rename_i ht
      obtain ⟨e1, e2, e3, hu⟩ := isFuncT_spec ht
      refine nilBin_run h (equal_of fun d => eqIn_fn_some hu d _ _ _ w) (fun op ho => by rcases ho with rfl | rfl <;> rfl)
    · cases h
  · rw [(rep_raw.1 ha).1, (rep_raw.1 hb).1]
    refine ⟨fun _ _ => eqGuard_run ⟨by simp, by simp⟩ w, ?_⟩
    split at h
    · rename_i ht
      obtain ⟨e1, e2, e3, hu⟩ := isFuncT_spec ht
      refine nilBin_run h (equal_of fun d => eqIn_fn_none hu d w) (fun op ho => by rcases ho with rfl | rfl <;> rfl)
    · cases h
  · rename_i cs ds
    obtain ⟨xs, e1, _⟩ := rep_agg.1 ha
    obtain ⟨ys, e2, _⟩ := rep_agg.1 hb
    split at h
    · cases h
    · rename_i hg
      cases he : eqPV P 12 t (.agg cs) (.agg ds) with
      | none => rw [he] at h; cases h
      | some r =>
        rw [he] at h
        have hr : (Op.equal t a b).run P w = .ok r w := eqPV_run 12 9988 t _ _ r he a b ha hb w
        refine ⟨fun X Y => by rw [e1, e2]; exact run_eqGuard_agg w op t X Y xs ys (by simpa using hg), nilBin_run h hr (fun op ho => by rw [e1, e2]; rcases ho with rfl | rfl <;> rfl)⟩
  · cases h
end
end Go.Proofs.Ytmclnnpaephkpaa
