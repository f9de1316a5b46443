/-
  The plain law of Parse: numbers, words, lines; what a text's program is.
-/
import Derived.Test.YtiejgieiokmmfaaGreatDoorZC52f
import Derived.Test.YtiejgieiokmmfaaGreatDoorZT52f
import Derived.Test.YtiejgieiokmmfaaGreatDoorZT52g
namespace Go.Proofs.YtiejgieiokmmfaaGreatDoor
set_option linter.unusedVariables false
set_option linter.unusedSimpArgs false
set_option linter.unnecessarySimpa false
set_option linter.unusedSectionVars false
open Go.RowKit
/-! ### strings -/
abbrev bs (l : List UInt8) : ByteArray := ⟨l.toArray⟩
@[simp] theorem bs_size (l : List UInt8) : (bs l).size = l.length := by simp [ByteArray.size]
theorem bs_tl (l : List UInt8) : (bs l).toList = l := by rw [Lib.toList_data]
theorem bs_get {l : List UInt8} {k : Nat} {x : UInt8} (h : l[k]? = some x) {K : Int → R} : byteX (bs l) (k : Int) K = K x.toNat := by
  refine byteX_of (by omega) ?_
  have h1 := List.getElem?_eq_some_iff.1 h
  obtain ⟨hl, rfl⟩ := h1
  rw [Int.toNat_natCast]
  have hs : k < (bs l).size := by simpa using hl
  rw [getElem?_pos (bs l) k hs]
  rfl
theorem bs_extract (l : List UInt8) (a b : Nat) : (bs l).extract a b = bs ((l.take b).drop a) := by
  apply ByteArray.ext
  apply Array.ext'
  rw [Lib.extract_data]
  simp [List.drop_take]
theorem bs_app (a b : List UInt8) : bs a ++ bs b = bs (a ++ b) := by
  apply ByteArray.ext
  simp
theorem strsL_get {ws : List (List UInt8)} {k : Nat} {w : List UInt8} (h : ws[k]? = some w) {K : PV → R} : lgetX (strsL ws) (k : Int) K = K (.str (bs w)) := lget_map h
@[simp] theorem strsL_len (ws : List (List UInt8)) : (strsL ws).length = ws.length := by simp [strsL]
theorem strsL_snoc (a : List (List UInt8)) (w : List UInt8) : strsL a ++ [.str (bs w)] = strsL (a ++ [w]) := by simp [strsL]
theorem beqT {a b : List UInt8} (h : a = b) : (a == b) = true := by simp [h]
theorem beqF {a b : List UInt8} (h : a ≠ b) : (a == b) = false := by simpa using h
/-! ### numbers -/
def valS : Nat → List UInt8 → Option Nat
  | a, [] => some a
  | a, x :: l => if x.toNat < 48 then none else if 57 < x.toNat then none else valS (10 * a + (x.toNat - 48)) l
def numS (l : List UInt8) : Option Nat := if l.length < 1 then none else if 6 < l.length then none else if 1 < l.length ∧ l[0]? = some 48 then none else valS 0 l
theorem valS_lt : ∀ {l : List UInt8} {a n : Nat}, valS a l = some n → n < (a + 1) * 10 ^ l.length
  | [], a, n, h => by simp [valS] at h; subst h; simp
  | x :: l, a, n, h => by
    unfold valS at h
    split at h
    · cases h
    split at h
    · cases h
    have := valS_lt h
    rw [List.length_cons, Nat.pow_succ]
    have h3 : (10 * a + (x.toNat - 48) + 1) * 10 ^ l.length ≤ ((a + 1) * 10) * 10 ^ l.length := Nat.mul_le_mul_right _ (by omega)
    have h4 : ((a + 1) * 10) * 10 ^ l.length = (a + 1) * (10 ^ l.length * 10) := by rw [Nat.mul_assoc, Nat.mul_comm 10]
    omega
theorem numS_lt {l : List UInt8} {n : Nat} (h : numS l = some n) : n < 1000000 := by
  unfold numS at h
  split at h
  · cases h
  split at h
  · cases h
  split at h
  · cases h
  have h1 := valS_lt h
  have h2 : (10 : Nat) ^ l.length ≤ 10 ^ 6 := Nat.pow_le_pow_right (by decide) (by omega)
  omega
/-! ### words -/
def joinW (w : List UInt8) : List (List UInt8) → List (List UInt8)
  | [] => [w]
  | h :: t => (w ++ h) :: t
theorem splitC_at {c : UInt8} {l : List UInt8} (w : List UInt8) : joinW w (splitC c (c :: l)) = w :: splitC c l := by
  rw [splitC, if_pos rfl, joinW]; simp
theorem splitC_no {c x : UInt8} {l : List UInt8} (h : x ≠ c) (w : List UInt8) : joinW w (splitC c (x :: l)) = joinW (w ++ [x]) (splitC c l) := by
  rw [splitC, if_neg h]
  obtain ⟨a, b, e⟩ := splitC_cons c l
  rw [e]; simp [joinW]
theorem joinW_nil (c : UInt8) (l : List UInt8) : joinW [] (splitC c l) = splitC c l := by
  obtain ⟨a, b, e⟩ := splitC_cons c l
  rw [e]; rfl
/-! ### lines -/
def progB : List UInt8 := [112, 114, 111, 103, 114, 97, 109]
def startB : List UInt8 := [115, 116, 97, 114, 116]
def d01 (x : UInt8) : Bool := x == 48 || x == 49
def headR : List (List UInt8) → Option (Nat × Nat × Nat)
  | [w, a, b, c] => if w = progB then (match numS a, numS b, numS c with | some x, some y, some z => some (x, y, z) | _, _, _ => none) else none
  | _ => none
def startR : List (List UInt8) → Option (List Bool)
  | [w, a] => if w = startB then (if a = [] then none else if a.all d01 then some (a.map (· == 49)) else none) else none
  | _ => none
def opOf (a : List UInt8) : Nat :=
  if a = [76, 68] then 1 else if a = [76, 68, 78] then 2 else if a = [65, 78, 68] then 3 else if a = [65, 78, 68, 78] then 4 else if a = [79, 82] then 5 else if a = [79, 82, 78] then 6 else
  if a = [83, 84] then 7 else if a = [83, 84, 78] then 8 else if a = [83] then 9 else if a = [82] then 10 else if a = [74, 77, 80] then 11 else if a = [74, 77, 80, 67] then 12 else if a = [74, 77, 80, 67, 78] then 13 else 0
theorem opOf_le (a : List UInt8) : opOf a ≤ 13 := by
  have key : ∀ (c : Prop) [Decidable c] (x y : Nat), x ≤ 13 → y ≤ 13 → (if c then x else y) ≤ 13 := fun c _ x y h1 h2 => by split <;> assumption
  unfold opOf
  repeat (first | exact Nat.zero_le _ | refine key _ _ _ (by decide) ?_)
/-- The first bit of a letter, and how many it has. -/
def kindR (p : Prg) (c : UInt8) : Option (Int × Int) := if c = 73 then some (0, p.ni) else if c = 81 then some (p.ni, p.no) else if c = 77 then some (p.ni + p.no, p.nm) else none
def numJ (k : Nat) (b : List UInt8) : Option (Ins × Bool) := (numS b).map fun (n : Nat) => (((k : Int), (n : Int)), false)
def numK (k : Nat) (fc : Int × Int) (s : List UInt8) : Option (Ins × Bool) := (numS s).map fun (n : Nat) => (((k : Int), fc.1 + (n : Int)), decide (fc.2 ≤ (n : Int)))
def instrB (p : Prg) (k : Nat) (b : List UInt8) : Option (Ins × Bool) := if 11 ≤ k then numJ k b else
    (match b with
    | [] => none
    | c :: s => (match kindR p c with
      | none => none
      | some fc => numK k fc s))
def instrR (p : Prg) : List (List UInt8) → Option (Ins × Bool)
  | [a, b] => if opOf a = 0 then none else instrB p (opOf a) b
  | _ => none
def stepR (line : Nat) (p : Prg) (ws : List (List UInt8)) : Option (Prg × Bool) :=
  if line = 1 then (headR ws).map fun x => ({ p with ni := x.1, no := x.2.1, nm := x.2.2 }, false)
  else if line = 2 ∧ 0 < p.nm then (startR ws).map fun s => ({ p with start := p.start ++ s }, false)
  else (instrR p ws).map fun x => ({ p with list := p.list ++ [x.1] }, x.2)
def putF (f : List Int) (k : Int) : List Int := if k ∈ f then f else f ++ [k]
def farF (b : Bool) (f : List Int) (k : Int) : List Int := match b with | true => putF f k | false => f
def goL (line : Nat) (p : Prg) (f : List Int) : List (List UInt8) → Nat ⊕ (Prg × List Int)
  | [] => .inl line
  | [w] => if w ≠ [] ∨ (line = 2 ∧ 0 < p.nm) then .inl line else .inr (p, f)
  | w :: v :: ws => match stepR line p (splitC 32 w) with
    | none => .inl line
    | some (q, b) => goL (line + 1) q (farF b f p.list.length) (v :: ws)
def firstF (p : Prg) (f : List Int) : Nat → List Ins → Int
  | _, [] => 0
  | i, x :: l => if (i : Int) ∈ f then 2 else if insE p i x ≠ 0 then insE p i x else firstF p f (i + 1) l
def checkF (p : Prg) (f : List Int) : Int := if headS p ≠ 0 then headS p else firstF p f 0 p.list
def noP : Prg := ⟨0, 0, 0, [], []⟩
/-- What Parse returns of a text that is not too long. -/
def parS (l : List UInt8) : Prg × Int × Int := if l = [] then (noP, 1, 12) else match goL 1 noP [] (splitC 10 l) with
  | .inl k => (noP, k, 14)
  | .inr (p, f) => if checkF p f ≠ 0 then (noP, 0, checkF p f) else (p, 0, 0)
def parP (x : Prg × Int × Int) : PV := .tuple [prgP x.1, .int .i64 x.2.1, .int .i64 x.2.2]
/-! ### the model's program -/
def mdlL (w : Int) (f : List Int) : Nat → List Ins → List Ins
  | _, [] => []
  | k, x :: l => (if (k : Int) ∈ f then (x.1, w) else x) :: mdlL w f (k + 1) l
def mdl (p : Prg) (f : List Int) : Prg := { p with list := mdlL (p.ni + p.no + p.nm) f 0 p.list }
theorem mdlL_len (w : Int) (f : List Int) : ∀ (k : Nat) (l : List Ins), (mdlL w f k l).length = l.length
  | _, [] => rfl
  | k, x :: l => by simp [mdlL, mdlL_len w f (k + 1) l]
/-- What a state is like in the midst of a text. -/
structure okP (p : Prg) (f : List Int) : Prop where
  i0 : 0 ≤ p.ni
  i1 : p.ni < 1000000
  o0 : 0 ≤ p.no
  o1 : p.no < 1000000
  m0 : 0 ≤ p.nm
  m1 : p.nm < 1000000
  ops : ∀ x, x ∈ p.list → 1 ≤ x.1 ∧ x.1 ≤ 13
  far : ∀ k, k ∈ f → ∃ (n : Nat) (x : Ins), k = n ∧ p.list[n]? = some x ∧ x.1 ≤ 10
theorem mem_putF {f : List Int} {k j : Int} : j ∈ putF f k ↔ j ∈ f ∨ j = k := by
  unfold putF; split
  · rename_i h; constructor
    · exact .inl
    · rintro (h1 | rfl) <;> assumption
  · simp
theorem instrR_ops {p : Prg} {ws : List (List UInt8)} {x : Ins} {b : Bool} (h : instrR p ws = some (x, b)) : 1 ≤ x.1 ∧ x.1 ≤ 13 ∧ (b = true → x.1 ≤ 10) := by
  unfold instrR at h
  split at h
  · rename_i a c
    have := opOf_le a
    split at h
    · cases h
    unfold instrB at h
    split at h
    · obtain ⟨n, _, e⟩ := Option.map_eq_some_iff.1 h
      injection e with e1 e2; subst e1; subst e2
      exact ⟨by simp only; omega, by simp only; omega, fun h => by cases h⟩
    · split at h
      · cases h
      · split at h
        · cases h
        · obtain ⟨n, _, e⟩ := Option.map_eq_some_iff.1 h
          injection e with e1 e2; subst e1
          exact ⟨by simp only; omega, by simp only; omega, fun _ => by simp only; omega⟩
  · cases h
theorem headR_lt {ws : List (List UInt8)} {x : Nat × Nat × Nat} (h : headR ws = some x) : x.1 < 1000000 ∧ x.2.1 < 1000000 ∧ x.2.2 < 1000000 := by
  unfold headR at h
  split at h
  · split at h
    · split at h
      · rename_i a b c h1 h2 h3
        cases h
        exact ⟨numS_lt h1, numS_lt h2, numS_lt h3⟩
      · cases h
    · cases h
  · cases h
theorem okP_step {line : Nat} {p q : Prg} {f : List Int} {ws : List (List UInt8)} {b : Bool} (h : okP p f) (hs : stepR line p ws = some (q, b)) : okP q (farF b f p.list.length) := by
  unfold stepR at hs
  split at hs
  · obtain ⟨x, hx, e⟩ := Option.map_eq_some_iff.1 hs
    injection e with e1 e2; subst e1; subst e2
    have := headR_lt hx
    exact ⟨by simp only; omega, by simp only; omega, by simp only; omega, by simp only; omega, by simp only; omega, by simp only; omega, h.ops, h.far⟩
  split at hs
  · obtain ⟨x, hx, e⟩ := Option.map_eq_some_iff.1 hs
    injection e with e1 e2; subst e1; subst e2
    exact ⟨h.i0, h.i1, h.o0, h.o1, h.m0, h.m1, h.ops, h.far⟩
  · obtain ⟨⟨x, b'⟩, hx, e⟩ := Option.map_eq_some_iff.1 hs
    injection e with e1 e2; subst e1; simp only at e2; subst e2
    have ho := instrR_ops hx
    refine ⟨h.i0, h.i1, h.o0, h.o1, h.m0, h.m1, fun y hy => ?_, fun k hk => ?_⟩
    · rcases List.mem_append.1 hy with hy | hy
      · exact h.ops y hy
      · rw [List.mem_singleton.1 hy]; exact ⟨ho.1, ho.2.1⟩
    · have old : k ∈ f → ∃ (n : Nat) (y : Ins), k = n ∧ (p.list ++ [x])[n]? = some y ∧ y.1 ≤ 10 := fun hk => by
        obtain ⟨n, y, h1, h2, h3⟩ := h.far k hk
        exact ⟨n, y, h1, by rw [List.getElem?_append_left (List.getElem?_eq_some_iff.1 h2).1]; exact h2, h3⟩
      cases b' with
      | false => exact old hk
      | true =>
        rcases mem_putF.1 hk with hk | rfl
        · exact old hk
        · exact ⟨p.list.length, x, rfl, by simp, ho.2.2 rfl⟩
theorem far_lt {p : Prg} {f : List Int} (h : okP p f) {k : Int} (hk : k ∈ f) : k < p.list.length := by
  obtain ⟨n, x, rfl, h2, _⟩ := h.far k hk
  have := (List.getElem?_eq_some_iff.1 h2).1
  omega
theorem mdlL_snoc (w : Int) {f : List Int} (x : Ins) : ∀ (l : List Ins) (k : Nat), mdlL w f k (l ++ [x]) = mdlL w f k l ++ [if ((k + l.length : Nat) : Int) ∈ f then (x.1, w) else x]
  | [], k => by simp [mdlL]
  | y :: l, k => by
    rw [List.cons_append, mdlL, mdlL, mdlL_snoc w x l (k + 1), List.length_cons, show k + 1 + l.length = k + (l.length + 1) by omega]; rfl
theorem mdlL_put (w : Int) {f : List Int} {n : Int} : ∀ (l : List Ins) (k : Nat), (k : Int) + l.length ≤ n → mdlL w (putF f n) k l = mdlL w f k l
  | [], _, _ => rfl
  | y :: l, k, h => by
    rw [List.length_cons] at h
    rw [mdlL, mdlL, mdlL_put w l (k + 1) (by omega)]
    by_cases hk : (k : Int) ∈ f
    · rw [if_pos (mem_putF.2 (.inl hk)), if_pos hk]
    · rw [if_neg (fun h' => (mem_putF.1 h').elim hk fun h' => by omega), if_neg hk]
/-- The model's program behind a line. -/
theorem mdl_step {p : Prg} {f : List Int} (h : okP p f) (x : Ins) (b : Bool) : mdl { p with list := p.list ++ [x] } (farF b f p.list.length) = { mdl p f with list := (mdl p f).list ++ [if b = true then (x.1, p.ni + p.no + p.nm) else x] } := by
  unfold mdl
  simp only
  rw [mdlL_snoc, Nat.zero_add]
  cases b with
  | false =>
    have : ¬ ((p.list.length : Int) ∈ f) := fun hk => by have := far_lt h hk; omega
    simp [farF, this]
  | true =>
    have hm : (p.list.length : Int) ∈ putF f p.list.length := mem_putF.2 (.inr rfl)
    show ({ p with list := mdlL (p.ni + p.no + p.nm) (putF f p.list.length) 0 p.list ++ [if (p.list.length : Int) ∈ putF f p.list.length then (x.1, p.ni + p.no + p.nm) else x] } : Prg) = _
    rw [mdlL_put _ _ _ (by omega), if_pos hm]; rfl
theorem insE_far {p : Prg} {i : Nat} {x : Ins} (h1 : 1 ≤ x.1) (h2 : x.1 ≤ 10) : insE p i (x.1, p.ni + p.no + p.nm) = 2 := by
  unfold insE
  simp only
  rw [if_neg (by omega), if_neg (by omega), if_pos (.inr (by omega))]
theorem insE_len {p q : Prg} (h1 : p.ni = q.ni) (h2 : p.no = q.no) (h3 : p.nm = q.nm) (h4 : p.list.length = q.list.length) (i : Nat) (x : Ins) : insE p i x = insE q i x := by
  unfold insE; rw [h1, h2, h3, h4]
theorem firstF_mdl {p : Prg} {f : List Int} (h : okP p f) : ∀ (l : List Ins) (k : Nat), (∀ (i : Nat) x, l[i]? = some x → p.list[k + i]? = some x) → firstF p f k l = firstE (mdl p f) k (mdlL (p.ni + p.no + p.nm) f k l)
  | [], _, _ => rfl
  | x :: l, k, hl => by
    have hx : p.list[k]? = some x := hl 0 x rfl
    rw [firstF, mdlL, firstE]
    have e := insE_len (p := mdl p f) (q := p) rfl rfl rfl (mdlL_len _ _ _ _) k
    by_cases hk : (k : Int) ∈ f
    · obtain ⟨n, y, h1, h2, h3⟩ := h.far _ hk
      have : n = k := by omega
      subst this
      rw [hx] at h2; injection h2 with h2; subst h2
      have ho := h.ops x (List.mem_of_getElem? hx)
      rw [if_pos hk, if_pos hk, e, insE_far ho.1 h3, if_pos (by decide)]
    · rw [if_neg hk, if_neg hk, e, firstF_mdl h l (k + 1) fun i y hy => by have := hl (i + 1) y (by simpa using hy); rwa [show k + 1 + i = k + (i + 1) by omega]]
theorem headS_mdl (p : Prg) (f : List Int) : headS (mdl p f) = headS p := by
  unfold headS
  rw [show (mdl p f).list.length = p.list.length from mdlL_len _ _ _ _]
  rfl
theorem checkF_mdl {p : Prg} {f : List Int} (h : okP p f) : checkS (mdl p f) = checkF p f := by
  unfold checkS checkF
  rw [headS_mdl, firstF_mdl h p.list 0 fun i x hx => by rwa [Nat.zero_add]]
  rfl
theorem firstF_0 {p : Prg} {f : List Int} : ∀ (l : List Ins) (k : Nat), firstF p f k l = 0 → mdlL (p.ni + p.no + p.nm) f k l = l
  | [], _, _ => rfl
  | x :: l, k, h => by
    rw [firstF] at h
    split at h
    · cases h
    rename_i hk
    split at h
    · exact absurd h (by assumption)
    rw [mdlL, if_neg hk, firstF_0 l (k + 1) h]
theorem mdl_ok {p : Prg} {f : List Int} (h : checkF p f = 0) : mdl p f = p := by
  unfold checkF at h
  split at h
  · exact absurd h (by assumption)
  unfold mdl
  rw [firstF_0 _ _ h]
end Go.Proofs.YtiejgieiokmmfaaGreatDoor
