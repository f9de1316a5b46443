/-
  The operations on values alone: the model's run yields what the abstract evaluator says.
  Every operation of 'pop': the model's run yields what the abstract evaluator says.
  Building values; every operation of 'pop'.
-/
import Derived.Test.YtkkgfoknknehfaaDoorAbD
import Derived.Laws.BytesString
import Derived.Great.BuildSlice
import Derived.Laws.CopyRow
import Derived.ChangeKeysEq
namespace Go.Proofs.YtkkgfoknknehfaaDoor
set_option linter.unusedVariables false
set_option linter.unusedSimpArgs false
set_option linter.unnecessarySimpa false
set_option linter.unusedSectionVars false
open Go.RowKit
section
variable {P : Program} {M : Mem} {B : Blk}
theorem reps_take_drop {cs : List PV} {vs : List Value} (h : Reps M B cs vs) (o z : Nat) : Reps M B ((cs.drop o).take z) ((vs.drop o).take z) := by
 have hl := reps_length h
 grind [reps_of, reps_get]
theorem extract_toList (cs : Array Value) (o z : Nat) : (cs.extract o (o + z)).toList = (cs.toList.drop o).take z := by
 simp_all
theorem un_one (p : PV) : p.un.one = p.one := by cases p <;> rfl
theorem subVal_rep {cs : List PV} {vs : Array Value} (h : Reps M B cs vs.toList) {t : TypeId} {I : TI} {i : TypeInfo} {zv : Value} {d : TypeDesc} (hT : TIs P t I i zv d) {o : Nat} {p : PV} (hs : subVal cs o I.size I.agg = some p) (w : World) :
 ∃ v, (part t vs o).run P w = .ok v w ∧ Rep M B p v ∧ p.own = false := by
 unfold subVal at hs
 unfold part
 rw [Sem.run_bind, hT.run_isAgg w]
 split at hs
 ·rename_i hg
  split at hs
  ·cases hs
   simp only [hg, if_true, Result.andThen_ok, Sem.run_bind, hT.run_sizeOf w]
   exact ⟨_, rfl, rep_agg.2 ⟨_, rfl, by rw [extract_toList]; exact reps_take_drop h _ _⟩, rfl⟩
  ·cases hs
 ·cases hc : cs[o]? with
  | none => simp_all
  | some q =>
   simp only [hc, Option.bind_some] at hs
   split at hs
   ·cases hs
    obtain ⟨u, hu, hr⟩ := reps_get h hc
    have hu' : vs[o]? = some u := by grind
    have hg' : I.agg = false := by grind
    simp only [hg', hu']
    exact ⟨u, rfl, rep_un.2 hr, un_own q⟩
   ·cases hs
theorem loc_of_one {p : PV} (h1 : p.one = true) {b o : Nat} : Loc M B p b o ↔ ∃ u, M b o = some u ∧ Rep M B p u :=
 loc_one (by cases p <;> first | rfl | (simp [PV.one] at h1)) (fun cs e => by grind [PV.one])
theorem subVal_loc {cs : List PV} {b off : Nat} (h : Cells M B cs b off) {o z : Nat} {g : Bool} {p : PV} (hs : subVal cs o z g = some p) : Loc M B p b (off + o) := by
 unfold subVal at hs
 split at hs
 ·split at hs
  ·cases hs
   refine loc_agg.2 (cells_of fun j q hq => ?_)
   grind [cells_get]
  ·cases hs
 grind [loc_un, loc_of_one, cells_get]
theorem add_lit (b o k : Nat) : (⟨b, o, none⟩ : Addr).add k = ⟨b, o + k, none⟩ := by grind [Addr.add]
theorem subAddr_rep {q : PV} {v : Value} (hq : Rep M B q v) {s : TypeId} {fs : List (Nat × Nat × Bool)} (hf : fieldsOf P s = some fs) {f o z : Nat} {g : Bool} (hj : fs[f]? = some (o, z, g)) (hz : z ≠ 0) {p : PV} (hs : subAddr q o z g = some p) (w : World) :
 ∃ u, (Instr.fieldAt s v f).run P w = .ok u w ∧ Rep M B p u ∧ p.own = false := by
 obtain ⟨Fs, F, I, i, zv, d, hu, hF, ho, hT, hsz, hg⟩ := fields_spec hf hj
 subst ho; subst hsz; subst hg
 have run : ∀ b off, (Instr.fieldAt s (.pointer (some ⟨b, off, none⟩)) f).run P w = .ok (.pointer (some ⟨b, off + F.offset, none⟩)) w := fun b off => by
  simp [Instr.fieldAt, run_underlying hu, hF, Instr.sureAddr, fieldPlace, hT.run_sizeOf w, hz, add_lit]
 unfold subAddr at hs
 split at hs
 ·cases hs
  obtain ⟨c, hc, rfl⟩ := rep_ptr.1 hq
  exact ⟨_, run _ _, rep_ptr.2 ⟨c, hc, rfl⟩, rfl⟩
 ·rename_i cs
  cases hv : subVal cs F.offset I.size I.agg with
  | none => simp_all
  | some r =>
   simp [hv] at hs; subst hs
   obtain ⟨b, off, rfl, hl⟩ := rep_cst.1 hq
   exact ⟨_, run _ _, rep_cst.2 ⟨b, _, rfl, subVal_loc (loc_agg.1 hl) hv⟩, rfl⟩
 ·cases hs
theorem intBin_run {op : BinOp} {k : IntKind} {a b : Int} {p : PV} (h : intBin op k a b = some p) (hop : op ≠ .shl ∧ op ≠ .shr) (t : TypeId) (w : World) :
 ∃ v, (binOp op t (.int k a) (.int k b)).run P w = .ok v w ∧ Rep M B p v ∧ p.own = false := by
 cases op <;> simp only [intBin, reduceCtorEq] at h <;> first
  | (cases h; exact ⟨_, by simp [binOp, Op.intBits]; first | rfl | done, by first | exact rep_int.2 rfl | exact rep_bool.2 rfl, rfl⟩)
  | (split at h; exact absurd h (by simp); rename_i h0; cases h; exact ⟨_, by simp [binOp, Op.intDiv, h0]; first | rfl | done, by rfl, rfl⟩)
  | (exact absurd rfl hop.1)
  | (exact absurd rfl hop.2)
theorem shiftBin_run {op : BinOp} {k k' : IntKind} {a b : Int} {p : PV} (h : shiftBin op k a b = some p) (t : TypeId) (w : World) :
 ∃ v, (binOp op t (.int k a) (.int k' b)).run P w = .ok v w ∧ Rep M B p v ∧ p.own = false := by
 unfold shiftBin at h
 split at h
 ·cases h
 ·rename_i hb
  cases op <;> simp only [reduceCtorEq] at h
  ·cases h; exact ⟨_, by simp [binOp, Op.shift, hb], rep_int.2 rfl, rfl⟩
  ·cases h; exact ⟨_, by simp [binOp, Op.shift, hb], rep_int.2 rfl, rfl⟩
theorem strBin_run {op : BinOp} {a b : ByteArray} {p : PV} (h : strBin op a b = some p) (t : TypeId) (w : World) :
 ∃ v, (binOp op t (.string a) (.string b)).run P w = .ok v w ∧ Rep M B p v ∧ p.own = false := by
 cases op <;> simp only [strBin, reduceCtorEq] at h
 ·split at h
  ·cases h
   have h' : ¬ (((a.size + b.size : Nat) : Int) > IntKind.i64.max) := by
    have : IntKind.i64.max = 9223372036854775807 := by decide
    grind [LIM]
   refine ⟨_, ?_, rep_str.2 rfl, rfl⟩
   simp only [binOp, Op.stringOp, if_neg h']
   rfl
  ·cases h
 ·cases h; exact ⟨_, rfl, rep_bool.2 rfl, rfl⟩
 ·cases h; exact ⟨_, rfl, rep_bool.2 rfl, rfl⟩
theorem eqGuard_run {op : BinOp} {t : TypeId} {x y : Operand} {a b : Value} (ha : a ≠ .nilIface ∧ ∀ cs, a ≠ .agg cs) (w : World) : (eqGuard op t x y a b).run P w = .ok () w := by
 cases a with
 | nilIface => simp_all
 | agg cs => simp_all
 | _ => cases op <;> simp [eqGuard]
theorem eqIn_bool {t : TypeId} (h : P.underlying t = some .bool) (d : Nat) (a b : Bool) (w : World) : (Op.equalIn (d + 1) t (.bool a) (.bool b)).run P w = .ok (a == b) w := by
 rw [Op.equalIn, Sem.run_bind, run_underlying h w]; rfl
theorem eqIn_ptr_some {t e : TypeId} (h : P.underlying t = some (.pointer e)) (d : Nat) (a : Addr) (w : World) : (Op.equalIn (d + 1) t (.pointer (some a)) (.pointer none)).run P w = .ok false w := by
 rw [Op.equalIn, Sem.run_bind, run_underlying h w]; rfl
theorem eqIn_ptr_none {t e : TypeId} (h : P.underlying t = some (.pointer e)) (d : Nat) (w : World) : (Op.equalIn (d + 1) t (.pointer none) (.pointer none)).run P w = .ok true w := by
 rw [Op.equalIn, Sem.run_bind, run_underlying h w]; rfl
theorem eqIn_fn_some {t : TypeId} {x y : Array TypeId} {z : Bool} (h : P.underlying t = some (.func x y z)) (d : Nat) (f : Fn) (a b : Array Value) (w : World) : (Op.equalIn (d + 1) t (.func f a b) .nilFunc).run P w = .ok false w := by
 rw [Op.equalIn, Sem.run_bind, run_underlying h w]; rfl
theorem eqIn_fn_none {t : TypeId} {x y : Array TypeId} {z : Bool} (h : P.underlying t = some (.func x y z)) (d : Nat) (w : World) : (Op.equalIn (d + 1) t .nilFunc .nilFunc).run P w = .ok true w := by
 rw [Op.equalIn, Sem.run_bind, run_underlying h w]; rfl
theorem equal_of {t : TypeId} {a b : Value} {r : Bool} {w : World} (h : ∀ d, (Op.equalIn (d + 1) t a b).run P w = .ok r w) : (Op.equal t a b).run P w = .ok r w := h 9999
theorem isBoolT_spec {t : TypeId} (h : isBoolT P t = true) : P.underlying t = some .bool := by
 grind [isBoolT]
theorem isStrT_spec {t : TypeId} (h : isStrT P t = true) : P.underlying t = some .string := by
 grind [isStrT]
theorem isPtrT_spec {t : TypeId} (h : isPtrT P t = true) : ∃ e, P.underlying t = some (.pointer e) := by
 grind [isPtrT]
theorem isFuncT_spec {t : TypeId} (h : isFuncT P t = true) : ∃ a b c, P.underlying t = some (.func a b c) := by
 grind [isFuncT]
theorem nilBin_run {op : BinOp} {is : Bool} {p : PV} (h : nilBin op is = some p) {t : TypeId} {a b : Value} {w : World} (he : (Op.equal t a b).run P w = .ok is w)
 (hab : ∀ op, op = .eql ∨ op = .neq → binOp op t a b = (if op = .eql then do pure (.bool (← Op.equal t a b)) else do pure (.bool (!(← Op.equal t a b))))) :
 ∃ v, (binOp op t a b).run P w = .ok v w ∧ Rep M B p v ∧ p.own = false := by
 cases op <;> simp only [nilBin, reduceCtorEq] at h
 ·cases h; rw [hab _ (.inl rfl)]; exact ⟨.bool is, by simp [he], rep_bool.2 rfl, rfl⟩
 ·cases h; rw [hab _ (.inr rfl)]; exact ⟨.bool (!is), by simp [he], rep_bool.2 rfl, rfl⟩
theorem eqFs_run {d : Nat} {E : TypeId → PV → PV → Option Bool} (hE : ∀ t x y r, E t x y = some r → ∀ a b, Rep M B x a → Rep M B y b → ∀ w, (Op.equalIn d t a b).run P w = .ok r w) {cs ds : List PV} {xs ys : Array Value} (hx : Reps M B cs xs.toList) (hy : Reps M B ds ys.toList) (w : World) :
 ∀ (fs : List Field) (r : Bool), eqFs P E cs ds fs = some r → (Op.eqFields d xs ys fs).run P w = .ok r w
 | [], r, h => by simp [eqFs] at h; subst h; rfl
 | f :: fs, r, h => by
  rw [eqFs] at h
  split at h
  ·cases h
  ·rename_i hn
   split at h
   ·rename_i I hI
    split at h
    ·rename_i p q hp hq
     split at h
     ·rename_i b r' hb hr
      injection h with h; subst h
      obtain ⟨i, z, dd, hT⟩ := ti_spec hI
      obtain ⟨u, h1, h2, _⟩ := subVal_rep hx hT hp w
      obtain ⟨v, h3, h4, _⟩ := subVal_rep hy hT hq w
      have h5 := hE _ _ _ _ hb u v h2 h4 w
      have ih := eqFs_run hE hx hy w fs r' hr
      rw [Op.eqFields, if_pos hn]
      simp only [Sem.run_bind, h1, h3, h5, Result.andThen_ok]
      cases b
      ·rfl
      simp_all
     ·cases h
    ·cases h
   ·cases h
theorem eqAs_run {d : Nat} {e : TypeId} {E : PV → PV → Option Bool} (hE : ∀ x y r, E x y = some r → ∀ a b, Rep M B x a → Rep M B y b → ∀ w, (Op.equalIn d e a b).run P w = .ok r w) {cs ds : List PV} {xs ys : Array Value} (hx : Reps M B cs xs.toList) (hy : Reps M B ds ys.toList) {I : TI} (hI : ti P e = some I) (w : World) :
 ∀ (is : List Nat) (r : Bool), eqAs E I cs ds is = some r → (Op.eqItems d e (P.cellsOf e) xs ys is).run P w = .ok r w
 | [], r, h => by simp [eqAs] at h; subst h; rfl
 | f :: fs, r, h => by
  rw [eqAs] at h
  split at h
  ·rename_i p q hp hq
   split at h
   ·rename_i b r' hb hr
    injection h with h; subst h
    obtain ⟨i, z, dd, hT⟩ := ti_spec hI
    have hc : P.cellsOf e = I.size := by simp [Program.cellsOf, hT.info, hT.size]
    obtain ⟨u, h1, h2, _⟩ := subVal_rep hx hT hp w
    obtain ⟨v, h3, h4, _⟩ := subVal_rep hy hT hq w
    have h5 := hE _ _ _ hb u v h2 h4 w
    have ih := eqAs_run hE hx hy hI w fs r' hr
    rw [hc] at ih ⊢
    rw [Op.eqItems]
    simp only [Sem.run_bind, h1, h3, h5, Result.andThen_ok]
    cases b
    ·rfl
    simp_all
   ·cases h
  ·cases h
theorem eqPV_run : ∀ (k d : Nat) (t : TypeId) (x y : PV) (r : Bool), eqPV P k t x y = some r → ∀ a b, Rep M B x a → Rep M B y b → ∀ w, (Op.equalIn (d + k) t a b).run P w = .ok r w
 | 0, d, t, x, y, r, h, a, b, ha, hb, w => by cases h
 | k + 1, d, t, x, y, r, h, a, b, ha, hb, w => by
  unfold eqPV at h
  split at h
  ·split at h
   ·rw [rep_int.1 ha, rep_int.1 hb]
    grind [run_equalIn_int]
   ·cases h
  ·rw [rep_bool.1 ha, rep_bool.1 hb]
   grind [run_equalIn_bool]
  ·rw [rep_str.1 ha, rep_str.1 hb]
   grind [run_equalIn_string]
  ·rename_i fs cs ds hu
   by_cases hst : P.stoodInHeld t = true
   simp_all
   ·rw [if_neg hst] at h
    obtain ⟨xs, rfl, hx⟩ := rep_agg.1 ha
    obtain ⟨ys, rfl, hy⟩ := rep_agg.1 hb
    have hf : P.fieldsOf t = fs := by simp [Program.fieldsOf, hu]
    rw [show d + (k + 1) = (d + k) + 1 from rfl, run_equalIn_struct w (d + k) t xs ys (by rw [hf]; exact hu) (by simpa using hst), hf]
    exact eqFs_run (fun t x y r h a b ha hb w => eqPV_run k d t x y r h a b ha hb w) hx hy w fs.toList r h
  ·rename_i n e cs ds hu
   split at h
   ·rename_i I hI
    obtain ⟨xs, rfl, hx⟩ := rep_agg.1 ha
    obtain ⟨ys, rfl, hy⟩ := rep_agg.1 hb
    obtain ⟨i, z, dd, hT⟩ := ti_spec hI
    rw [show d + (k + 1) = (d + k) + 1 from rfl, run_equalIn_array w (d + k) xs ys hu hT.info]
    exact eqAs_run (fun x y r h a b ha hb w => eqPV_run k d e x y r h a b ha hb w) hx hy hI w _ r h
   ·cases h
  ·cases h
theorem bin_run {op : BinOp} {t : TypeId} {x y p : PV} (h : binPV P op t x y = some p) {a b : Value} (ha : Rep M B x a) (hb : Rep M B y b) (w : World) :
 (∀ X Y : Operand, (eqGuard op t X Y a b).run P w = .ok () w) ∧ ∃ v, (binOp op t a b).run P w = .ok v w ∧ Rep M B p v ∧ p.own = false := by
 unfold binPV at h
 split at h
 ·rw [rep_int.1 ha, rep_int.1 hb]
  refine ⟨fun _ _ => eqGuard_run ⟨by simp, by simp⟩ w, ?_⟩
  split at h
  ·exact shiftBin_run h t w
  ·exact shiftBin_run h t w
  ·rename_i h1 h2
   split at h
   ·rename_i e; subst e; exact intBin_run h ⟨fun e => h1 e, fun e => h2 e⟩ t w
   ·cases h
 ·rw [rep_str.1 ha, rep_str.1 hb]; exact ⟨fun _ _ => eqGuard_run ⟨by simp, by simp⟩ w, strBin_run h t w⟩
 ·rename_i a' b'
  rw [rep_bool.1 ha, rep_bool.1 hb]
  refine ⟨fun _ _ => eqGuard_run ⟨by simp, by simp⟩ w, ?_⟩
  split at h
  ·rename_i ht
   have hu := isBoolT_spec ht
   have he : (Op.equal t (.bool a') (.bool b')).run P w = .ok (a' == b') w := equal_of fun d => eqIn_bool hu d a' b' w
   refine nilBin_run ?_ he (fun op ho => by rcases ho with rfl | rfl <;> rfl)
   exact h
  ·cases h
 ·obtain ⟨c, hc, rfl⟩ := rep_ptr.1 ha
  rw [rep_nilp.1 hb]
  refine ⟨fun _ _ => eqGuard_run ⟨by simp, by simp⟩ w, ?_⟩
  split at h
  ·rename_i ht
   obtain ⟨e, hu⟩ := isPtrT_spec ht
   refine nilBin_run h (equal_of fun d => eqIn_ptr_some hu d _ w) (fun op ho => by rcases ho with rfl | rfl <;> rfl)
  ·cases h
 ·obtain ⟨b', off, rfl, _⟩ := rep_cst.1 ha
  rw [rep_nilp.1 hb]
  refine ⟨fun _ _ => eqGuard_run ⟨by simp, by simp⟩ w, ?_⟩
  split at h
  ·rename_i ht
   obtain ⟨e, hu⟩ := isPtrT_spec ht
   refine nilBin_run h (equal_of fun d => eqIn_ptr_some hu d _ w) (fun op ho => by rcases ho with rfl | rfl <;> rfl)
  ·cases h
 ·rw [rep_nilp.1 ha, rep_nilp.1 hb]
  refine ⟨fun _ _ => eqGuard_run ⟨by simp, by simp⟩ w, ?_⟩
  split at h
  ·rename_i ht
   obtain ⟨e, hu⟩ := isPtrT_spec ht
   refine nilBin_run h (equal_of fun d => eqIn_ptr_none hu d w) (fun op ho => by rcases ho with rfl | rfl <;> rfl)
  ·cases h
 ·obtain ⟨f, c, rfl, _, _⟩ := rep_func.1 ha
  rw [(rep_raw.1 hb).1]
  refine ⟨fun _ _ => eqGuard_run ⟨by simp, by simp⟩ w, ?_⟩
  split at h
  ·rename_i ht
   obtain ⟨e1, e2, e3, hu⟩ := isFuncT_spec ht
   refine nilBin_run h (equal_of fun d => eqIn_fn_some hu d _ _ _ w) (fun op ho => by rcases ho with rfl | rfl <;> rfl)
  ·cases h
 ·rw [(rep_raw.1 ha).1, (rep_raw.1 hb).1]
  refine ⟨fun _ _ => eqGuard_run ⟨by simp, by simp⟩ w, ?_⟩
  split at h
  ·rename_i ht
   obtain ⟨e1, e2, e3, hu⟩ := isFuncT_spec ht
   refine nilBin_run h (equal_of fun d => eqIn_fn_none hu d w) (fun op ho => by rcases ho with rfl | rfl <;> rfl)
  ·cases h
 ·rename_i cs ds
  obtain ⟨xs, e1, _⟩ := rep_agg.1 ha
  obtain ⟨ys, e2, _⟩ := rep_agg.1 hb
  split at h
  ·cases h
  ·cases he : eqPV P 12 t (.agg cs) (.agg ds) with
   | none => rw [he] at h; cases h
   | some r =>
    rw [he] at h
    have hr : (Op.equal t a b).run P w = .ok r w := eqPV_run 12 9988 t _ _ r he a b ha hb w
    refine ⟨fun X Y => by grind [run_eqGuard_agg], nilBin_run h hr (fun op ho => by rw [e1]; rcases ho with rfl | rfl <;> rfl)⟩
 ·cases h
end
end Go.Proofs.YtkkgfoknknehfaaDoor
namespace Go.Proofs.YtkkgfoknknehfaaDoor
set_option linter.unusedVariables false
set_option linter.unusedSimpArgs false
set_option linter.unnecessarySimpa false
set_option linter.unusedSectionVars false
open Go.RowKit
section
variable {P : Program} {M : Mem} {B : Blk}
theorem execOp_value {ρ : Operand → Value} {o : Oper} {s : Sem Value} {v : Value} {w : World} (h : execOp ρ o = (do pure (.value (← s)))) (hr : s.run P w = .ok v w) : (execOp ρ o).run P w = .ok (.value v) w := by
 rw [h]; simp [hr]
theorem len_run {t ty : TypeId} {x p : PV} (h : lenPV P t x = some p) {a : Value} (ha : Rep M B x a) (w : World) :
 ∃ v, (Builtin.len_ #[t] ty #[a]).run P w = .ok v w ∧ Rep M B p v ∧ p.own = false := by
 have hsl : ∀ {n : Nat} {A : Option Addr} {c : Nat}, (elemOf' P t).map (fun _ => PV.int .i64 n) = some p → ∃ v, (Builtin.len_ #[t] ty #[.slice A n c]).run P w = .ok v w ∧ Rep M B p v ∧ p.own = false := by
  intro n A c h
  unfold elemOf' at h
  split at h
  ·rename_i e hu
   simp at h; subst h
   exact ⟨_, by simp [Builtin.len_, run_underlying hu]; rfl, rep_int.2 rfl, rfl⟩
  ·simp at h
 unfold lenPV at h
 split at h
 ·split at h
  ·rename_i ht; cases h
   rw [rep_str.1 ha]
   exact ⟨_, by simp [Builtin.len_, run_underlying (isStrT_spec ht)]; rfl, rep_int.2 rfl, rfl⟩
  ·cases h
 ·obtain ⟨A, cap, rfl, _⟩ := rep_sl.1 ha; exact hsl h
 ·obtain ⟨c, cap, _, rfl, _⟩ := rep_slh.1 ha; exact hsl h
 ·obtain ⟨A, cap, rfl, _⟩ := rep_slp.1 ha; exact hsl h
 ·cases h
theorem isBytesT_spec {s : TypeId} (h : isBytesT P s = true) : ∃ e, P.underlying s = some (.slice e) ∧ P.underlying e = some (.int .u8) := by
 grind [isBytesT]
theorem bytes_vals {es : List PV} {b : Nat} {w : World} (hmem : ∀ (b o : Nat) (v : Value), M b o = some v → w.cell? ⟨b, o, none⟩ = some v ∧ v.oneCell' = true) (hb : bytesP es = true) {off : Nat} (hl : Locs M [] 1 es b off) :
 ∀ (j : Nat) v, ((es.map byteInt).map (Value.int .u8))[j]? = some v → w.cell? ⟨b, off + j, none⟩ = some v := by
 intro j v hv
 simp only [List.getElem?_map, Option.map_map] at hv
 obtain ⟨q, hq, rfl⟩ := Option.map_eq_some_iff.1 hv
 have hloc := locs_get hl hq
 have hbq : isByte q = true := List.all_eq_true.1 hb q (List.mem_of_getElem? hq)
 cases q <;> simp [isByte] at hbq
 subst hbq
 obtain ⟨u, hu, hru⟩ := (loc_one rfl (fun cs e => by cases e)).1 hloc
 have hr : u = .int .u8 _ := rep_int.1 hru
 subst hr
 have := (hmem _ _ _ hu).1
 rwa [Nat.mul_one] at this
theorem conv_run {s d : TypeId} {x p : PV} (h : convPV P s d x = some p) {a : Value} (ha : Rep M B x a) (w : World) (hmem : ∀ (b o : Nat) (v : Value), M b o = some v → w.cell? ⟨b, o, none⟩ = some v ∧ v.oneCell' = true) :
 ∃ v, (convert s d a).run P w = .ok v w ∧ Rep M B p v ∧ p.own = false := by
 unfold convPV at h
 split at h
 ·rename_i ow sz es
  split at h
  ·rename_i hc
   cases h
   obtain ⟨e, hs, he⟩ := isBytesT_spec hc.1
   obtain ⟨A, cap, rfl, _, hsz, _, hA⟩ := rep_sl.1 ha
   refine ⟨.string (strOf es), ?_, rep_str.2 rfl, rfl⟩
   rw [run_convert_bytes_string w s d e A es.length cap hs he (isStrT_spec hc.2.1)]
   by_cases h0 : es = []
   ·subst h0
    cases A with
    | none => rfl
    | some A => rfl
   ·obtain ⟨b, off, rfl, hl⟩ := hA h0
    have h1 : sz = 1 := by
     obtain ⟨q, qs, rfl⟩ := List.exists_cons_of_ne_nil h0
     have hq := hsz q (by simp)
     have hbq : isByte q = true := List.all_eq_true.1 hc.2.2 q (by simp)
     cases q <;> simp [isByte] at hbq
     exact hq.symm
    have := run_loadCells_list (P := P) w ⟨b, off, none⟩ ((es.map byteInt).map (Value.int .u8)) (fun j v hj => by rw [add_lit]; grind [bytes_vals])
    simp only [List.length_map] at this
    exact run_bytesToString w ⟨b, off, none⟩ es.length cap (es.map byteInt) this
  ·cases h
 ·rename_i k0 n
  rw [rep_int.1 ha]
  unfold intT at h
  split at h
  ·rename_i k hk
   split at hk
   ·rename_i k' hu
    cases hk
    split at h
    ·rename_i ds hs
     cases h
     refine ⟨.int k (k.wrap n), ?_, rep_int.2 rfl, rfl⟩
     unfold convert
     rw [Sem.run_bind, run_underlying hs w, Result.andThen_ok, Sem.run_bind, run_underlying hu w]
     cases ds <;> rfl
    ·cases h
   ·cases hk
  ·cases h
 ·rename_i a'
  rw [rep_str.1 ha]
  split at h
  ·rename_i hs hd
   cases h
   refine ⟨.string a', ?_, rep_str.2 rfl, rfl⟩
   unfold convert
   rw [Sem.run_bind, run_underlying hs w, Result.andThen_ok, Sem.run_bind, run_underlying hd w]
   rfl
  ·cases h
 ·cases h
theorem allSome_get : ∀ {l : List (Option PV)} {ps : List PV}, allSome l = some ps → l = ps.map some
 | [], ps, h => by grind [allSome]
 | none :: _, _, h => by simp [allSome] at h
 | some p :: l, ps, h => by
  rw [allSome] at h
  cases ha : allSome l with
  | none => grind
  | some qs => simp [ha] at h; subst h; simp [allSome_get ha]
theorem reps_all {rd : Operand → Option PV} {ρ : Operand → Value} (hrd : ∀ x q, rd x = some q → Rep M B q (ρ x) ∧ q.own = false) : ∀ {xs : List Operand} {ps : List PV}, allSome (xs.map rd) = some ps → Reps M B ps (xs.map ρ) ∧ ∀ p, p ∈ ps → p.own = false
 | [], ps, h => by simp [allSome] at h; subst h; exact ⟨reps_nil.2 rfl, by simp⟩
 | x :: xs, ps, h => by
  have h' := allSome_get h
  cases ps with
  | nil => simp at h'
  | cons p ps =>
   simp only [List.map_cons, List.cons.injEq] at h'
   obtain ⟨h1, h2⟩ := h'
   have ih := reps_all hrd (by
    rw [h2]
    have : ∀ ps : List PV, allSome (ps.map some) = some ps := by
     intro ps; induction ps with
     | nil => rfl
     | cons a l ih => simp [allSome, ih]
    exact this ps)
   exact ⟨reps_cons.2 ⟨_, _, rfl, (hrd _ _ h1).1, ih.1⟩, fun q hq => by
    rcases List.mem_cons.1 hq with rfl | hq
    ·exact (hrd _ _ h1).2
    ·exact ih.2 q hq⟩
theorem reps_two {p q : PV} {vs : List Value} (h : Reps M B [p, q] vs) : ∃ a b, vs = [a, b] ∧ Rep M B p a ∧ Rep M B q b := by
 obtain ⟨a, us, rfl, ha, h2⟩ := reps_cons.1 h
 obtain ⟨b, us', rfl, hb, h3⟩ := reps_cons.1 h2
 rw [reps_nil] at h3; grind
theorem min_run {ts : Array TypeId} {ty : TypeId} {ps : List PV} {p : PV} (h : minPV ps = some p) {vs : Array Value} (hv : Reps M B ps vs.toList) (w : World) :
 ∃ v, (Builtin.min_ ts ty vs).run P w = .ok v w ∧ Rep M B p v ∧ p.own = false := by
 unfold minPV at h
 split at h
 ·split at h
  ·cases h
   obtain ⟨a, b, e, ha, hb⟩ := reps_two hv
   rw [rep_int.1 ha, rep_int.1 hb] at e
   refine ⟨_, ?_, rep_int.2 rfl, rfl⟩
   unfold Builtin.min_; rw [e]
   rfl
  ·cases h
 ·cases h
theorem max_run {ts : Array TypeId} {ty : TypeId} {ps : List PV} {p : PV} (h : maxPV ps = some p) {vs : Array Value} (hv : Reps M B ps vs.toList) (w : World) :
 ∃ v, (Builtin.max_ ts ty vs).run P w = .ok v w ∧ Rep M B p v ∧ p.own = false := by
 unfold maxPV at h
 split at h
 ·split at h
  ·cases h
   obtain ⟨a, b, e, ha, hb⟩ := reps_two hv
   rw [rep_int.1 ha, rep_int.1 hb] at e
   refine ⟨_, ?_, rep_int.2 rfl, rfl⟩
   unfold Builtin.max_; rw [e]
   rfl
  ·cases h
 ·split at h
  ·cases h
   obtain ⟨a, us, e, ha, h2⟩ := reps_cons.1 hv
   obtain ⟨b, us', rfl, hb, h2⟩ := reps_cons.1 h2
   obtain ⟨c, d, rfl, hc, hd⟩ := reps_two h2
   rw [rep_int.1 ha, rep_int.1 hb, rep_int.1 hc, rep_int.1 hd] at e
   refine ⟨_, ?_, rep_int.2 rfl, rfl⟩
   unfold Builtin.max_; rw [e]
   rfl
  ·cases h
 ·cases h
theorem un_run {op : UnOp} {x p : PV} (h : unPV op x = some p) {a : Value} (ha : Rep M B x a) (w : World) : ∃ v, (Op.unary op a).run P w = .ok v w ∧ Rep M B p v ∧ p.own = false := by
 unfold unPV at h
 split at h
 ·cases h; rw [rep_int.1 ha]; exact ⟨_, rfl, rep_int.2 rfl, rfl⟩
 ·cases h; rw [rep_bool.1 ha]; exact ⟨_, rfl, rep_bool.2 rfl, rfl⟩
 ·cases h
theorem ext_run {x p : PV} {i : Nat} (h : extPV x i = some p) {a : Value} (ha : Rep M B x a) (w : World) : ∃ v, (Instr.extract a i).run P w = .ok v w ∧ Rep M B p v ∧ p.own = false := by
 unfold extPV at h
 split at h
 ·rename_i ps
  obtain ⟨vs, rfl, hr⟩ := rep_tuple.1 ha
  cases hp : ps[i]? with
  | none => grind
  | some q =>
   simp [hp] at h; subst h
   obtain ⟨u, hu, hq⟩ := reps_get hr hp
   have hu' : vs[i]? = some u := by grind
   exact ⟨u, by simp [Instr.extract, hu'], rep_un.2 hq, un_own q⟩
 ·cases h
def obound (d : Nat) : Option PV → Option Int
 | none => some d
 | some (.int _ n) => some n
 | _ => none
theorem obound_val {d : Nat} {q : Option PV} {n : Int} (h : obound d q = some n) {x : Option Value} (hx : (q = none ∧ x = none) ∨ ∃ p v, q = some p ∧ x = some v ∧ Rep M B p v) :
 (q = none ∧ x = none ∧ n = d) ∨ ∃ k, x = some (.int k n) := by
 rcases hx with ⟨rfl, rfl⟩ | ⟨p, v, rfl, rfl, hr⟩
 grind [obound]
 ·cases p <;> simp [obound] at h
  subst h; rw [rep_int.1 hr]; simp
theorem bounds_run {isS : Bool} {len cap : Nat} {lo hi : Option Value} {l h : Int} (hl : (lo = none ∧ l = 0) ∨ ∃ k, lo = some (.int k l)) (hh : (hi = none ∧ h = len) ∨ ∃ k, hi = some (.int k h))
 (h0 : 0 ≤ l) (h1 : l ≤ h) (h2 : h ≤ len) (hc : len ≤ cap) (w : World) : (Instr.sliceBounds isS len cap lo hi none).run P w = .ok (l.toNat, h.toNat, cap) w := by
 rcases hl with ⟨rfl, rfl⟩ | ⟨k, rfl⟩ <;> rcases hh with ⟨rfl, rfl⟩ | ⟨k', rfl⟩
 rfl
 ·simp [Instr.sliceBounds, run_sliceBound w k' h cap _ (by omega) (by omega)]
 ·simp [Instr.sliceBounds, run_sliceBound w k l len _ (by omega) (by omega)]
 ·simp [Instr.sliceBounds, run_sliceBound w k' h cap _ (by omega) (by omega), run_sliceBound w k l h.toNat _ (by omega) (by omega)]
theorem bounds3_run {len cap : Nat} {k1 k2 k3 : IntKind} {l h m : Int} (h0 : 0 ≤ l) (h1 : l ≤ h) (h2 : h ≤ m) (h3 : m ≤ len) (hc : len ≤ cap) (w : World) :
 (Instr.sliceBounds true len cap (some (.int k1 l)) (some (.int k2 h)) (some (.int k3 m))).run P w = .ok (l.toNat, h.toNat, m.toNat) w := by
 simp [Instr.sliceBounds, run_sliceBound w k3 m cap _ (by omega) (by omega), run_sliceBound w k2 h m.toNat _ (by omega) (by omega), run_sliceBound w k1 l h.toNat _ (by omega) (by omega)]
theorem slice3_run {t : TypeId} {x p pa pb pc : PV} (hs : slice3PV P t x pa pb pc = some p) {a l h m : Value} (ha : Rep M B x a) (hl : Rep M B pa l) (hh : Rep M B pb h) (hm : Rep M B pc m) (w : World) :
 ∃ v, (Instr.sliceAt t a (some l) (some h) (some m)).run P w = .ok v w ∧ Rep M B p v ∧ p.own = false := by
 unfold slice3PV at hs
 split at hs
 ·rename_i o sz es k1 l' k2 h' k3 m'
  obtain ⟨A, cap, rfl, hle, hsz, hz, hA⟩ := rep_sl.1 ha
  obtain rfl := rep_int.1 hl
  obtain rfl := rep_int.1 hh
  obtain rfl := rep_int.1 hm
  split at hs
  ·rename_i hc
   obtain ⟨ht, b1, b2, b3, b4⟩ := hc
   cases hs
   obtain ⟨I, hI, hIs⟩ := Option.map_eq_some_iff.1 ht
   obtain ⟨e, i, z, d, hu, hT⟩ := elem_spec hI
   have hu' : P.underlying t = some (.slice (P.elem t)) := by simp [Program.elem, hu]
   have hee : P.elem t = e := by simp_all
   have hrun : (Instr.sliceAt t (.slice A es.length cap) (some (.int k1 l')) (some (.int k2 h')) (some (.int k3 m'))).run P w = .ok (.slice (if m'.toNat = l'.toNat then A else A.map (·.add (l'.toNat * sz))) (h'.toNat - l'.toNat) (m'.toNat - l'.toNat)) w := by
    rw [run_sliceAt_slice w t _ _ _ _ hu', run_slice_any w t A es.length cap hu', bounds3_run b1 b2 b3 b4 hle w, Result.andThen_ok, hee, hT.run_sizeOf w]
    simp [sliced, hIs]
   refine ⟨_, hrun, rep_sl.2 ⟨_, _, by simp only [List.length_drop, List.length_take]; rw [Nat.min_eq_left (by omega)], ?_, fun e he => hsz e (List.mem_of_mem_take (List.mem_of_mem_drop he)), fun h0 => by grind, ?_⟩, rfl⟩
   grind
   ·intro hne
    have hlen : ((es.take h'.toNat).drop l'.toNat).length ≠ 0 := fun e => hne (List.eq_nil_of_length_eq_zero e)
    simp only [List.length_drop, List.length_take] at hlen
    obtain ⟨b, off, rfl, hloc⟩ := hA (fun e => by rw [e] at hlen; simp at hlen)
    rw [if_neg (by omega)]
    refine ⟨b, off + l'.toNat * sz, by rw [Option.map_some, add_lit], locs_of fun j p hj => ?_⟩
    rw [List.getElem?_drop, List.getElem?_take] at hj
    split at hj
    ·have := locs_get hloc hj
     rwa [show off + l'.toNat * sz + j * sz = off + (l'.toNat + j) * sz by rw [Nat.add_mul]; omega]
    ·cases hj
  ·cases hs
 ·cases hs
theorem slice_run {t : TypeId} {x p : PV} {lo hi : Option PV} (hs : slicePV P t x lo hi = some p) {a : Value} (ha : Rep M B x a) {l h : Option Value}
 (hl : (lo = none ∧ l = none) ∨ ∃ p v, lo = some p ∧ l = some v ∧ Rep M B p v) (hh : (hi = none ∧ h = none) ∨ ∃ p v, hi = some p ∧ h = some v ∧ Rep M B p v) (w : World) :
 ∃ v, (Instr.sliceAt t a l h none).run P w = .ok v w ∧ Rep M B p v ∧ p.own = false := by
 unfold slicePV at hs
 simp only at hs
 split at hs
 ·rename_i s
  rw [rep_str.1 ha]
  split at hs
  ·rename_i l' h' e1 e2
   split at hs
   ·rename_i hc
    obtain ⟨ht, b1, b2, b3⟩ := hc
    cases hs
    have hu := isStrT_spec ht
    have hl' : (l = none ∧ l' = 0) ∨ ∃ k, l = some (.int k l') := by
     rcases obound_val e1 hl with ⟨_, r1, r2⟩ | r
     simp_all
     simp_all
    have hh' : (h = none ∧ h' = s.size) ∨ ∃ k, h = some (.int k h') := by
     rcases obound_val e2 hh with ⟨_, r1, r2⟩ | r
     simp_all
     simp_all
    refine ⟨_, ?_, rep_str.2 rfl, rfl⟩
    rw [run_sliceAt_string w t _ _ _ _ hu]
    simp [Instr.slice, run_underlying hu, bounds_run hl' hh' b1 b2 (by omega) (Nat.le_refl _) w]
   ·cases hs
  ·cases hs
 ·rename_i o sz es
  obtain ⟨A, cap, rfl, hle, hsz, hz, hA⟩ := rep_sl.1 ha
  split at hs
  ·rename_i l' h' e1 e2
   split at hs
   ·rename_i hc
    obtain ⟨ht, b1, b2, b3⟩ := hc
    cases hs
    obtain ⟨I, hI, hIs⟩ := Option.map_eq_some_iff.1 ht
    obtain ⟨e, i, z, d, hu, hT⟩ := elem_spec hI
    have hu' : P.underlying t = some (.slice (P.elem t)) := by simp [Program.elem, hu]
    have hee : P.elem t = e := by simp_all
    have hl' : (l = none ∧ l' = 0) ∨ ∃ k, l = some (.int k l') := by
     rcases obound_val e1 hl with ⟨_, r1, r2⟩ | r
     simp_all
     simp_all
    have hh' : (h = none ∧ h' = es.length) ∨ ∃ k, h = some (.int k h') := by
     rcases obound_val e2 hh with ⟨_, r1, r2⟩ | r
     simp_all
     simp_all
    have hrun : (Instr.sliceAt t (.slice A es.length cap) l h none).run P w = .ok (.slice (if cap = l'.toNat then A else A.map (·.add (l'.toNat * sz))) (h'.toNat - l'.toNat) (cap - l'.toNat)) w := by
     rw [run_sliceAt_slice w t _ _ _ _ hu', run_slice_any w t A es.length cap hu', bounds_run hl' hh' b1 b2 b3 hle w, Result.andThen_ok, hee, hT.run_sizeOf w]
     simp [sliced, hIs]
    refine ⟨_, hrun, rep_sl.2 ⟨_, _, by simp only [List.length_drop, List.length_take]; rw [Nat.min_eq_left (by omega)], ?_, fun e he => hsz e (List.mem_of_mem_take (List.mem_of_mem_drop he)), fun h0 => by simp_all, ?_⟩, rfl⟩
    grind
    ·intro hne
     have hlen : ((es.take h'.toNat).drop l'.toNat).length ≠ 0 := fun e => hne (List.eq_nil_of_length_eq_zero e)
     simp only [List.length_drop, List.length_take] at hlen
     obtain ⟨b, off, rfl, hloc⟩ := hA (fun e => by rw [e] at hlen; simp at hlen)
     rw [if_neg (by omega)]
     refine ⟨b, off + l'.toNat * sz, by rw [Option.map_some, add_lit], locs_of fun j p hj => ?_⟩
     rw [List.getElem?_drop, List.getElem?_take] at hj
     split at hj
     ·have := locs_get hloc hj
      rwa [show off + l'.toNat * sz + j * sz = off + (l'.toNat + j) * sz by rw [Nat.add_mul]; omega]
     ·cases hj
   ·cases hs
  ·cases hs
 ·rename_i i off n sz
  obtain ⟨c, cap, hc', rfl, hle, hfit⟩ := rep_slh.1 ha
  split at hs
  ·rename_i l' h' e1 e2
   split at hs
   ·rename_i hc
    obtain ⟨ht, b1, b2, b3, b4⟩ := hc
    obtain ⟨I, hI, hIs⟩ := Option.map_eq_some_iff.1 ht
    obtain ⟨e, i', z, d, hu, hT⟩ := elem_spec hI
    have hu' : P.underlying t = some (.slice (P.elem t)) := by simp [Program.elem, hu]
    have hee : P.elem t = e := by simp_all
    have hl' : (l = none ∧ l' = 0) ∨ ∃ k, l = some (.int k l') := by
     rcases obound_val e1 hl with ⟨_, r1, r2⟩ | r
     simp_all
     simp_all
    have hh' : (h = none ∧ h' = n) ∨ ∃ k, h = some (.int k h') := by
     rcases obound_val e2 hh with ⟨_, r1, r2⟩ | r
     simp_all
     simp_all
    have hrun : (Instr.sliceAt t (.slice (some ⟨c.1, off, none⟩) n cap) l h none).run P w = .ok (.slice (if cap = l'.toNat then some ⟨c.1, off, none⟩ else some ⟨c.1, off + l'.toNat * sz, none⟩) (h'.toNat - l'.toNat) (cap - l'.toNat)) w := by
     rw [run_sliceAt_slice w t _ _ _ _ hu', run_slice_any w t _ n cap hu', bounds_run hl' hh' b1 b2 b3 hle w, Result.andThen_ok, hee, hT.run_sizeOf w]
     simp [sliced, hIs, add_lit]
    split at hs
    ·cases hs
     rw [if_neg (by omega)] at hrun
     refine ⟨_, hrun, rep_slh.2 ⟨c, cap - l'.toNat, hc', rfl, by omega, ?_⟩, rfl⟩
     have : l'.toNat * sz + (cap - l'.toNat) * sz = cap * sz := by rw [← Nat.add_mul]; grind
     omega
    ·cases hs
     refine ⟨_, hrun, rep_sl.2 ⟨_, _, by rw [show h'.toNat - l'.toNat = ([] : List PV).length by simp; omega], by simp, by simp, fun h => absurd h (by omega), fun h0 => absurd rfl h0⟩, rfl⟩
   ·cases hs
  ·cases hs
 ·cases hs
end
end Go.Proofs.YtkkgfoknknehfaaDoor
namespace Go.Proofs.YtkkgfoknknehfaaDoor
set_option linter.unusedVariables false
set_option linter.unusedSimpArgs false
set_option linter.unnecessarySimpa false
set_option linter.unusedSectionVars false
open Go.RowKit
theorem fold_seg (off : Nat) : ∀ (l : List Value) (k : Nat) (cs : Array Value), off + k + l.length ≤ cs.size →
 ((l.zipIdx k).foldl (fun (cs : Array Value) (cj : Value × Nat) => cs.setIfInBounds (off + cj.2) cj.1) cs).toList = cs.toList.take (off + k) ++ l ++ cs.toList.drop (off + k + l.length)
 | [], k, cs, _ => by simp
 | v :: l, k, cs, h => by
  simp only [List.zipIdx_cons, List.foldl_cons]
  rw [fold_seg off l (k + 1) _ (by simp at h ⊢; omega), Array.toList_setIfInBounds]
  have := list_seg_step cs.toList (off + k) v l (by omega)
  rw [show off + (k + 1) = off + k + 1 by omega, this]
  simp [Nat.add_assoc]
section
variable {P : Program} {M : Mem} {B : Blk}
theorem reps_append {ps qs : List PV} {us vs : List Value} (h1 : Reps M B ps us) (h2 : Reps M B qs vs) : Reps M B (ps ++ qs) (us ++ vs) := by
 grind [reps_of, reps_length, reps_get]
theorem reps_take {ps : List PV} {us : List Value} (h : Reps M B ps us) (k : Nat) : Reps M B (ps.take k) (us.take k) := by
 have := reps_take_drop h 0 k; simp_all
theorem reps_drop {ps : List PV} {us : List Value} (h : Reps M B ps us) (k : Nat) : Reps M B (ps.drop k) (us.drop k) := by
 have := reps_take_drop h k (ps.length - k)
 have hl := reps_length h
 rwa [List.take_of_length_le (by simp), List.take_of_length_le (by simp [hl])] at this
theorem reps_un {ps : List PV} {us : List Value} (h : Reps M B ps us) : Reps M B (ps.map PV.un) us := by
 refine reps_of (by simp [reps_length h]) fun j p u hp hu => ?_
 cases hq : ps[j]? with
 | none => simp_all
 | some q =>
  simp [hq] at hp; subst hp
  obtain ⟨u', e, hr⟩ := reps_get h hq
  rw [e] at hu; cases hu; exact rep_un.2 hr
theorem one_cells {p : PV} (h : p.one = true) {v : Value} (hr : Rep M B p v) : v.cells = #[v] ∧ v.oneCell' = true := by
 cases p with
 | int k n => rw [rep_int.1 hr]; exact ⟨rfl, rfl⟩
 | bool b => rw [rep_bool.1 hr]; exact ⟨rfl, rfl⟩
 | str b => rw [rep_str.1 hr]; exact ⟨rfl, rfl⟩
 | nilp => rw [rep_nilp.1 hr]; exact ⟨rfl, rfl⟩
 | raw u => obtain ⟨rfl, h1⟩ := rep_raw.1 hr; refine ⟨?_, h1⟩; cases v <;> first | rfl | (simp [Value.oneCell'] at h1)
 | ptr i off => obtain ⟨c, _, rfl⟩ := rep_ptr.1 hr; exact ⟨rfl, rfl⟩
 | bld T i =>
  obtain ⟨c, _, h0, h1⟩ := rep_bld.1 hr
  by_cases hT : T = 0
  ·obtain ⟨_, rfl⟩ := h0 hT; exact ⟨rfl, rfl⟩
  ·have h1 := h1 hT
   unfold bldW at h1
   split at h1
   ·obtain ⟨_, rfl⟩ := h1; exact ⟨rfl, rfl⟩
   ·obtain ⟨_, rfl | rfl⟩ := h1 <;> exact ⟨rfl, rfl⟩
 | cst e => obtain ⟨c, _, rfl, _⟩ := rep_cst.1 hr; exact ⟨rfl, rfl⟩
 | sl o sz es => obtain ⟨A, c, rfl, _⟩ := rep_sl.1 hr; exact ⟨rfl, rfl⟩
 | slh i off n sz => obtain ⟨A, c, _, rfl, _⟩ := rep_slh.1 hr; exact ⟨rfl, rfl⟩
 | slT l => obtain ⟨A, c, rfl, _⟩ := rep_slT.1 hr; exact ⟨rfl, rfl⟩
 | slp o n sz cs => obtain ⟨A, c, rfl, _⟩ := rep_slp.1 hr; exact ⟨rfl, rfl⟩
 | mp l => obtain ⟨f, rfl, _⟩ := rep_mp.1 hr; exact ⟨rfl, rfl⟩
 | func fn f c => obtain ⟨f, c, rfl, _⟩ := rep_func.1 hr; exact ⟨rfl, rfl⟩
 | agg cs => simp [PV.one] at h
 | tuple cs => simp [PV.one] at h
theorem newCells_rep {p : PV} {new : List PV} (h : p.newCells = some new) {v : Value} (hr : Rep M B p v) : Reps M B new v.cells.toList ∧ ∀ q, q ∈ new → q.own = false := by
 unfold PV.newCells at h
 split at h
 ·split at h
  ·cases h
   obtain ⟨vs, rfl, hs⟩ := rep_agg.1 hr
   exact ⟨reps_un hs, fun q hq => by grind [un_own]⟩
  ·cases h
 ·split at h
  ·rename_i h1
   cases h
   rw [(one_cells h1 hr).1]
   exact ⟨reps_cons.2 ⟨v, [], rfl, rep_un.2 hr, reps_nil.2 rfl⟩, fun q hq => by rw [List.mem_singleton.1 hq]; exact un_own p⟩
  ·cases h
theorem newCells_one {p : PV} {new : List PV} (h : p.newCells = some new) {v : Value} (hr : Rep M B p v) : ∀ u, u ∈ v.cells.toList → u.oneCell' = true := by
 have h1 := (newCells_rep h hr).1
 have h2 : ∀ q, q ∈ new → q.one = true := by
  unfold PV.newCells at h
  grind [un_one]
 intro u hu
 obtain ⟨j, hj⟩ := List.mem_iff_getElem?.1 hu
 have hl := reps_length h1
 have hjl := (List.getElem?_eq_some_iff.1 hj).1
 have hd : new[j]? = some (new[j]'(by omega)) := List.getElem?_eq_getElem (by omega)
 obtain ⟨u', e, hr'⟩ := reps_get h1 hd
 rw [e] at hj; cases hj
 exact (one_cells (h2 _ (List.getElem_mem _)) hr').2
theorem fill_rep {place : Nat → Option (Nat × Nat)} : ∀ {ps : List (Nat × PV)} {vs : List (Nat × Value)} {cs : List PV} {us : Array Value} {r : List PV}, fillPV place cs ps = some r → Reps M B cs us.toList →
 ps.length = vs.length → (∀ (j : Nat) p v, ps[j]? = some p → vs[j]? = some v → p.1 = v.1 ∧ Rep M B p.2 v.2) → ∃ r', Instr.fill place us vs = some r' ∧ Reps M B r r'.toList
 | [], [], cs, us, r, h, hc, _, _ => by simp [fillPV] at h; subst h; exact ⟨us, rfl, hc⟩
 | [], _ :: _, _, _, _, _, _, hl, _ => by simp at hl
 | _ :: _, [], _, _, _, _, _, hl, _ => by simp at hl
 | (i, p) :: ps, (i', v) :: vs, cs, us, r, h, hc, hl, hv => by
  obtain ⟨e, hr⟩ := hv 0 (i, p) (i', v) rfl rfl
  subst e
  rw [fillPV] at h
  split at h
  ·rename_i o z new hp hn
   split at h
   ·have hnr := (newCells_rep hn hr).1
    have hsz : v.cells.size = z := by have := reps_length hnr; simp at this; omega
    have hus : us.size = cs.length := by have := reps_length hc; simp at this; omega
    have hfold := fold_seg o v.cells.toList 0 us (by simp; omega)
    have ha : (v.cells.zipIdx.foldl (fun cs (c, j) => cs.setIfInBounds (o + j) c) us) = ((v.cells.toList.zipIdx 0).foldl (fun (cs : Array Value) (cj : Value × Nat) => cs.setIfInBounds (o + cj.2) cj.1) us) := by
     rw [← Array.foldl_toList, Array.toList_zipIdx]
    obtain ⟨r', h1, h2⟩ := fill_rep h (by
     rw [hfold]
     have : (v.cells.toList.length) = z := by simpa using hsz
     rw [this]
     exact reps_append (reps_append (reps_take hc o) hnr) (reps_drop hc _)) (by simpa using hl) (fun j p v a b => hv (j + 1) p v (by simpa using a) (by simpa using b))
    refine ⟨r', ?_, h2⟩
    rw [Instr.fill, hp]
    simp only
    rw [if_neg (by simp; omega), ha]
    exact h1
   ·cases h
  ·cases h
theorem parts_rep {rd : Operand → Option PV} {ρ : Operand → Value} (hrd : ∀ x q, rd x = some q → Rep M B q (ρ x) ∧ q.own = false) : ∀ {xs : List (Nat × Operand)} {ps : List (Nat × PV)}, partsPV rd xs = some ps →
 ps.length = (xs.map fun ix => (ix.1, ρ ix.2)).length ∧ ∀ (j : Nat) p v, ps[j]? = some p → (xs.map fun ix => (ix.1, ρ ix.2))[j]? = some v → p.1 = v.1 ∧ Rep M B p.2 v.2
 | [], ps, h => by grind [partsPV]
 | (i, x) :: xs, ps, h => by
  rw [partsPV] at h
  split at h
  ·rename_i p qs hp hq
   obtain ⟨h1, h2⟩ := parts_rep hrd hq
   grind
  ·cases h
theorem zero_reps {z : Value} (h : ∀ v, v ∈ z.cells → v.oneCell' = true) : Reps M B ((z.cells.toList.map zeroPV).map PV.un) z.cells.toList := by
 grind [reps_un, reps_of, rep_zero]
theorem places_spec {t : TypeId} {fs : List (Nat × Nat × Bool)} (h : fieldsOf P t = some fs) : ∃ Fs, P.underlying t = some (.struct Fs) ∧ Fs.toList.mapM (fun f => (P.info? f.type).map fun i => (f.offset, i.size)) = some (fs.map fun f => (f.1, f.2.1)) := by
 unfold fieldsOf at h
 split at h
 ·rename_i Fs hu
  refine ⟨Fs, hu, ?_⟩
  generalize Fs.toList = L at h
  induction L generalizing fs with
  | nil => simp_all
  | cons f L ih =>
   rw [List.mapM_cons] at h ⊢
   cases hf : ti P f.type with
   | none => grind
   | some I =>
    cases hm : L.mapM (fun f => (ti P f.type).map fun i => (f.offset, i.size, i.agg)) with
    | none => simp_all
    | some bs =>
     simp [hf, hm] at h
     subst h
     obtain ⟨i, z, d, hT⟩ := ti_spec hf
     rw [ih hm]
     simp [hT.info, hT.size]
 ·cases h
theorem build_run {t : TypeId} {xs : Array (Nat × Operand)} {rd : Operand → Option PV} {ρ : Operand → Value} (hrd : ∀ x q, rd x = some q → Rep M B q (ρ x) ∧ q.own = false) {p : PV} (h : pop P rd (.build t xs) = some p) (w : World) :
 ∃ v, (Instr.build t (xs.map fun (i, x) => (i, ρ x))).run P w = .ok v w ∧ Rep M B p v ∧ p.own = false := by
 have hxs : (xs.map fun (i, x) => (i, ρ x)).toList = xs.toList.map fun ix => (ix.1, ρ ix.2) := by simp
 rw [pop] at h
 split at h
 ·rename_i I qs hI hq
  obtain ⟨i, z, d, hT⟩ := ti_spec hI
  obtain ⟨p1, p2⟩ := parts_rep hrd hq
  have hz : Reps M B (I.zero.map PV.un) z.cells.toList := by rw [hT.izero]; exact zero_reps hT.one
  split at h
  ·rename_i fs hf ha
   obtain ⟨Fs, hu, hm⟩ := places_spec hf
   cases hfill : fillPV (fun i => (fs[i]?).map fun f => (f.1, f.2.1)) (I.zero.map PV.un) qs with
   | none => simp_all
   | some r =>
    simp [hfill] at h; subst h
    obtain ⟨r', h1, h2⟩ := fill_rep hfill hz p1 p2
    refine ⟨.agg r', run_build w t _ r' ?_, rep_agg.2 ⟨r', rfl, h2⟩, rfl⟩
    have hpl : (fun (j : Nat) => ((fs.map fun f => (f.1, f.2.1)).toArray)[j]?) = fun (i : Nat) => (fs[i]?).map fun f => (f.1, f.2.1) := by
     simp
    simp only [Program.built, hT.info, hu, hT.zero, hm]
    rw [hpl, hxs]; exact h1
  ·rename_i n J hf ha
   obtain ⟨e, j, z', d', hu, hJ⟩ := arr_spec ha
   cases hfill : fillPV (fun i => some (i * J.size, J.size)) (I.zero.map PV.un) qs with
   | none => simp_all
   | some r =>
    simp [hfill] at h; subst h
    obtain ⟨r', h1, h2⟩ := fill_rep hfill hz p1 p2
    refine ⟨.agg r', run_build w t _ r' ?_, rep_agg.2 ⟨r', rfl, h2⟩, rfl⟩
    simp only [Program.built, hT.info, hu, hT.zero, hJ.info]
    rw [hxs, ← hJ.size]; exact h1
  ·cases h
 ·cases h
theorem call_run {c : Call} {ty : TypeId} {rd : Operand → Option PV} {ρ : Operand → Value} (hrd : ∀ x q, rd x = some q → Rep M B q (ρ x) ∧ q.own = false) {p : PV} (h : popCall P rd c = some p) (w : World) :
 ∃ v, (do let d ← resolve ρ c ty; invoke d.target d.args : Sem Next).run P w = .ok (.value v) w ∧ Rep M B p v ∧ p.own = false := by
 obtain ⟨callee, args, argTypes⟩ := c
 unfold popCall at h
 simp only at h
 split at h
 ·split at h
  ·rename_i x t h1 h2
   cases hx : rd x with
   | none => grind
   | some q =>
    simp [hx] at h
    have e1 : args = #[x] := by rw [← Array.toList_inj]; exact h1
    have e2 : argTypes = #[t] := by rw [← Array.toList_inj]; exact h2
    subst e1; subst e2
    obtain ⟨v, h3, h4⟩ := len_run (ty := ty) h (hrd _ _ hx).1 w
    exact ⟨v, by simp [resolve, invoke, builtin, h3], h4⟩
  ·cases h
 ·cases ha : allSome (args.toList.map rd) with
  | none => grind
  | some ps =>
   simp [ha] at h
   obtain ⟨h1, _⟩ := reps_all hrd ha
   obtain ⟨v, h3, h4⟩ := min_run h (vs := args.map ρ) (by simpa using h1) w
   exact ⟨v, by simp only [resolve, invoke, builtin, Sem.run_bind, Sem.run_pure, Result.andThen_ok]; rw [h3]; rfl, h4⟩
 ·cases ha : allSome (args.toList.map rd) with
  | none => grind
  | some ps =>
   simp [ha] at h
   obtain ⟨h1, _⟩ := reps_all hrd ha
   obtain ⟨v, h3, h4⟩ := max_run h (vs := args.map ρ) (by simpa using h1) w
   exact ⟨v, by simp only [resolve, invoke, builtin, Sem.run_bind, Sem.run_pure, Result.andThen_ok]; rw [h3]; rfl, h4⟩
 ·cases h
theorem indexAt_sl {t : TypeId} {A : Option Addr} {n cap : Nat} {k : IntKind} {j : Int} {I : TI} {e : TypeId} {i : TypeInfo} {z : Value} {d : TypeDesc} (hu : P.underlying t = some (.slice e)) (hT : TIs P e I i z d) {b off : Nat} (hA : A = some ⟨b, off, none⟩)
 (h0 : 0 ≤ j) (h1 : j < n) (w : World) : (Instr.indexAt t (.slice A n cap) (.int k j)).run P w = .ok (.pointer (some ⟨b, off + j.toNat * I.size, none⟩)) w := by
 subst hA
 simp [Instr.indexAt, asIntOf, run_underlying hu, h0, h1, hT.run_sizeOf w, add_lit]
theorem idx_run {t : TypeId} {x i : Operand} {rd : Operand → Option PV} {ρ : Operand → Value} (hrd : ∀ x q, rd x = some q → Rep M B q (ρ x) ∧ q.own = false) {p : PV} (h : pop P rd (.indexAddr t x i) = some p) (w : World) :
 ∃ v, (Instr.indexAt t (ρ x) (ρ i)).run P w = .ok v w ∧ Rep M B p v ∧ p.own = false := by
 rw [pop] at h
 split at h
 ·rename_i o sz es k n hx hi
  have hrx := (hrd _ _ hx).1
  rw [rep_int.1 (hrd _ _ hi).1]
  split at h
  ·rename_i hc
   obtain ⟨I, hI, hIs⟩ := Option.map_eq_some_iff.1 hc.1
   obtain ⟨e, i', z, d, hu, hT⟩ := elem_spec hI
   cases hg : es[n.toNat]? with
   | none => grind
   | some q =>
    simp [hg] at h; subst h
    have hlt := (List.getElem?_eq_some_iff.1 hg).1
    obtain ⟨A, cap, e1, hle, hsz, _, hA⟩ := rep_sl.1 hrx
    ·obtain ⟨b, off, rfl, hl⟩ := hA (fun e => by rw [e] at hlt; simp at hlt)
     rw [e1]
     refine ⟨_, indexAt_sl hu hT rfl hc.2 (by omega) w, rep_cst.2 ⟨b, _, rfl, ?_⟩, rfl⟩
     rw [hIs]; exact locs_get hl hg
  ·cases h
 ·rename_i j off m sz k n hx hi
  rw [rep_int.1 (hrd _ _ hi).1]
  split at h
  ·rename_i hc
   cases h
   obtain ⟨I, hI, hIs⟩ := Option.map_eq_some_iff.1 hc.1
   obtain ⟨e, i', z, d, hu, hT⟩ := elem_spec hI
   obtain ⟨c, cap, hc', e1, _⟩ := rep_slh.1 (hrd _ _ hx).1
   rw [e1]
   exact ⟨_, indexAt_sl hu hT rfl hc.2.1 (by omega) w, rep_ptr.2 ⟨c, hc', by rw [hIs]⟩, rfl⟩
  ·cases h
 ·rename_i j off k n hx hi
  rw [rep_int.1 (hrd _ _ hi).1]
  split at h
  ·rename_i m I hI
   split at h
   ·rename_i hc
    cases h
    obtain ⟨e, i', z, d, hu, hT⟩ := arr_spec hI
    obtain ⟨c, hc', e1⟩ := rep_ptr.1 (hrd _ _ hx).1
    rw [e1]
    refine ⟨_, ?_, rep_ptr.2 ⟨c, hc', rfl⟩, rfl⟩
    simp [Instr.indexAt, asIntOf, run_underlying hu, hc.1, hc.2, Instr.sureAddr, hT.run_sizeOf w, add_lit]
   ·cases h
  ·cases h
 ·rename_i cs k n hx hi
  rw [rep_int.1 (hrd _ _ hi).1]
  split at h
  ·rename_i m I hI
   split at h
   ·rename_i hc
    obtain ⟨e, i', z, d, hu, hT⟩ := arr_spec hI
    obtain ⟨b, off, e1, hl⟩ := rep_cst.1 (hrd _ _ hx).1
    rw [e1]
    cases hv : subVal cs (n.toNat * I.size) I.size I.agg with
    | none => grind
    | some r =>
     simp [hv] at h; subst h
     refine ⟨_, ?_, rep_cst.2 ⟨b, _, rfl, subVal_loc (loc_agg.1 hl) hv⟩, rfl⟩
     simp [Instr.indexAt, asIntOf, run_underlying hu, hc.1, hc.2, Instr.sureAddr, hT.run_sizeOf w, add_lit]
   ·cases h
  ·cases h
 ·cases h
theorem index_run {t : TypeId} {x i : Operand} {rd : Operand → Option PV} {ρ : Operand → Value} (hrd : ∀ x q, rd x = some q → Rep M B q (ρ x) ∧ q.own = false) {p : PV} (h : pop P rd (.index t x i) = some p) (w : World) :
 ∃ v, (Instr.index t (ρ x) (ρ i)).run P w = .ok v w ∧ Rep M B p v ∧ p.own = false := by
 rw [pop] at h
 split at h
 ·rename_i s k n hx hi
  rw [rep_int.1 (hrd _ _ hi).1, rep_str.1 (hrd _ _ hx).1]
  split at h
  ·rename_i hc
   cases hb : s[n.toNat]? with
   | none => grind
   | some b =>
    simp [hb] at h; subst h
    refine ⟨.int .u8 b.toNat, ?_, rep_int.2 rfl, rfl⟩
    simp [Instr.index, asIntOf, run_underlying (isStrT_spec hc.1), hc.2, hb]
  ·cases h
 ·rename_i cs k n hx hi
  rw [rep_int.1 (hrd _ _ hi).1]
  split at h
  ·rename_i m I hI
   split at h
   ·rename_i hc
    obtain ⟨e, i', z, d, hu, hT⟩ := arr_spec hI
    obtain ⟨vs, e1, hv⟩ := rep_agg.1 (hrd _ _ hx).1
    rw [e1]
    obtain ⟨v, h1, h2⟩ := subVal_rep hv hT h w
    refine ⟨v, ?_, h2⟩
    simp [Instr.index, asIntOf, run_underlying hu, hc.1, hc.2, hT.run_sizeOf w, h1]
   ·cases h
  ·cases h
 ·cases h
theorem pop_sound {rd : Operand → Option PV} {ρ : Operand → Value} (hrd : ∀ x q, rd x = some q → Rep M B q (ρ x) ∧ q.own = false) {o : Oper} {p : PV} (h : pop P rd o.op = some p) (w : World) (hmem : ∀ (b o : Nat) (v : Value), M b o = some v → w.cell? ⟨b, o, none⟩ = some v ∧ v.oneCell' = true) :
 ∃ v, (execOp ρ o).run P w = .ok (.value v) w ∧ Rep M B p v ∧ p.own = false := by
 obtain ⟨dst, op, type, pos, after, guard⟩ := o
 simp only at h
 have fin : ∀ {s : Sem Value}, (∃ v, s.run P w = .ok v w ∧ Rep M B p v ∧ p.own = false) → execOp ρ ⟨dst, op, type, pos, after, guard⟩ = (do pure (.value (← s))) → ∃ v, (execOp ρ ⟨dst, op, type, pos, after, guard⟩).run P w = .ok (.value v) w ∧ Rep M B p v ∧ p.own = false :=
  fun ⟨v, h1, h2⟩ he => ⟨v, execOp_value he h1, h2⟩
 cases op with
 | move x => exact ⟨ρ x, rfl, hrd _ _ h⟩
 | assign x => exact ⟨ρ x, rfl, hrd _ _ h⟩
 | pick c a b =>
  rw [pop] at h
  split at h
  ·rename_i cc hc
   have e := rep_bool.1 (hrd _ _ hc).1
   cases cc with
   | true => exact ⟨ρ a, by simp [execOp, e, asBool], hrd _ _ (by grind)⟩
   | false => exact ⟨ρ b, by simp [execOp, e, asBool], hrd _ _ (by grind)⟩
  ·cases h
 | fieldAddr s x f =>
  rw [pop] at h
  split at h
  ·rename_i fs q hf hq
   cases hj : fs[f]? with
   | none => grind
   | some ozg =>
    obtain ⟨o, z, g⟩ := ozg
    simp only [hj, Option.bind_some] at h
    split at h
    ·cases h
    ·rename_i hz
     exact fin (subAddr_rep (hrd _ _ hq).1 hf hj hz h w) rfl
  ·cases h
 | field s x f =>
  rw [pop] at h
  split at h
  ·rename_i fs cs hf hq
   cases hj : fs[f]? with
   | none => grind
   | some ozg =>
    obtain ⟨o, z, g⟩ := ozg
    simp only [hj, Option.bind_some] at h
    obtain ⟨Fs, F, I, i, zv, d, hu, hF, ho, hT, hsz, hg⟩ := fields_spec hf hj
    subst ho; subst hsz; subst hg
    obtain ⟨vs, e, hv⟩ := rep_agg.1 (hrd _ _ hq).1
    obtain ⟨v, h1, h2⟩ := subVal_rep hv hT h w
    refine fin ⟨v, ?_, h2⟩ rfl
    rw [e]
    simp [Instr.field, run_underlying hu, hF, asAgg, h1]
  ·cases h
 | indexAddr t x i => exact fin (idx_run hrd h w) rfl
 | index t x i => exact fin (index_run hrd h w) rfl
 | slice t x lo hi mx =>
  cases mx with
  | some m =>
   cases lo with
   | none => simp [pop] at h
   | some l =>
    cases hi with
    | none => simp [pop] at h
    | some b =>
     rw [pop] at h
     split at h
     ·rename_i q pa pb pc hx ha hb hc
      exact fin (slice3_run h (hrd _ _ hx).1 (hrd _ _ ha).1 (hrd _ _ hb).1 (hrd _ _ hc).1 w) rfl
     ·cases h
  | none =>
   rw [pop] at h
   cases hx : rd x with
   | none => grind
   | some q =>
    cases lo with
    | none =>
     cases hi with
     | none => simp [hx] at h; exact fin (slice_run h (hrd _ _ hx).1 (.inl ⟨rfl, rfl⟩) (.inl ⟨rfl, rfl⟩) w) rfl
     | some b =>
      cases hb : rd b with
      | none => simp_all
      | some pb => simp [hx, hb] at h; exact fin (slice_run h (hrd _ _ hx).1 (.inl ⟨rfl, rfl⟩) (.inr ⟨_, _, rfl, rfl, (hrd _ _ hb).1⟩) w) rfl
    | some a =>
     cases ha : rd a with
     | none => cases hi <;> simp [hx, ha] at h
     | some pa =>
      cases hi with
      | none => simp [hx, ha] at h; exact fin (slice_run h (hrd _ _ hx).1 (.inr ⟨_, _, rfl, rfl, (hrd _ _ ha).1⟩) (.inl ⟨rfl, rfl⟩) w) rfl
      | some b =>
       cases hb : rd b with
       | none => simp_all
       | some pb => simp [hx, ha, hb] at h; exact fin (slice_run h (hrd _ _ hx).1 (.inr ⟨_, _, rfl, rfl, (hrd _ _ ha).1⟩) (.inr ⟨_, _, rfl, rfl, (hrd _ _ hb).1⟩) w) rfl
 | binOp op t x y yt =>
  rw [pop] at h
  split at h
  ·rename_i a b ha hb
   obtain ⟨h1, v, h2, h3⟩ := bin_run h (hrd _ _ ha).1 (hrd _ _ hb).1 w
   refine fin (s := do eqGuard op t x y (ρ x) (ρ y); binOp op t (ρ x) (ρ y)) ⟨v, ?_, h3⟩ rfl
   rw [Sem.run_bind, h1 x y, Result.andThen_ok, h2]
  ·cases h
 | unOp op t x =>
  rw [pop] at h
  cases hx : rd x with
  | none => grind
  | some q => simp [hx] at h; exact fin (un_run h (hrd _ _ hx).1 w) rfl
 | convert s d x =>
  rw [pop] at h
  cases hx : rd x with
  | none => grind
  | some q => simp [hx] at h; exact fin (conv_run h (hrd _ _ hx).1 w hmem) rfl
 | makeFunc fn first caps =>
  rw [pop] at h
  split at h
  ·rename_i f c hf hc
   cases h
   exact fin (s := Instr.makeFunc fn (first.map ρ) (caps.map ρ)) ⟨_, rfl, rep_func.2 ⟨_, _, rfl, by simpa using (reps_all hrd hf).1, by simpa using (reps_all hrd hc).1⟩, rfl⟩ rfl
  ·cases h
 | extract x i =>
  rw [pop] at h
  cases hx : rd x with
  | none => grind
  | some q => simp [hx] at h; exact fin (ext_run h (hrd _ _ hx).1 w) rfl
 | nilCheck x =>
  rw [pop] at h
  split at h
  ·rename_i i o hx
   cases h
   obtain ⟨c, _, e⟩ := rep_ptr.1 (hrd _ _ hx).1
   exact ⟨ρ x, by simp [execOp, e], (hrd _ _ hx)⟩
  ·rename_i q hx
   cases h
   obtain ⟨b, off, e, _⟩ := rep_cst.1 (hrd _ _ hx).1
   exact ⟨ρ x, by simp [execOp, e], (hrd _ _ hx)⟩
  ·rename_i f a b hx
   cases h
   obtain ⟨f', c', e, _, _⟩ := rep_func.1 (hrd _ _ hx).1
   exact ⟨ρ x, by simp [execOp, e], (hrd _ _ hx)⟩
  ·cases h
 | build t ps => exact fin (build_run hrd h w) rfl
 | call c =>
  obtain ⟨v, h1, h2⟩ := call_run (ty := type) hrd (by simpa [pop] using h) w
  exact ⟨v, h1, h2⟩
 | _ => simp [pop] at h
end
end Go.Proofs.YtkkgfoknknehfaaDoor
