/-
  The functions of chapter 14 (expressions) as plain Lean functions on trees: what the walks show that the code computes. No program in sight.
-/
import Derived.Below
namespace Go.Proofs.Ytmclnnpaephkpaa
set_option linter.unusedVariables false
set_option linter.unusedSimpArgs false
set_option linter.unnecessarySimpa false
set_option linter.unusedSectionVars false

/-- An expression. -/
inductive EX where
  | node (op val idx : Int) (args : List EX)
deriving Inhabited
def EX.op : EX → Int | .node o _ _ _ => o
def EX.val : EX → Int | .node _ v _ _ => v
def EX.idx : EX → Int | .node _ _ i _ => i
def EX.args : EX → List EX | .node _ _ _ l => l

theorem EX.ind {P : EX → Prop} (h : ∀ o x i l, (∀ e, e ∈ l → P e) → P (.node o x i l)) : ∀ e, P e :=
  fun e => EX.rec (motive_1 := P) (motive_2 := fun l => ∀ e, e ∈ l → P e) (fun o x i l ih => h o x i l ih) (by simp) (fun a l ha hl e he => by
    rcases List.mem_cons.1 he with rfl | he
    · exact ha
    · exact hl e he) e

/-- A variable of the list: name, low, high, initial. -/
structure VT where
  name : ByteArray
  low : Int
  high : Int
  init : Int
deriving Inhabited

mutual
def sameE : EX → EX → Bool
  | .node o x i l, .node o' x' i' l' => o == o' && x == x' && i == i' && sameL l l'
def sameL : List EX → List EX → Bool
  | [], [] => true
  | a :: l, b :: l' => sameE a b && sameL l l'
  | _, _ => false
end

def largeS (n m : Int) : Bool := decide (m < n) || decide (n < -m)
def bitS (b : Bool) : Int := if b then 1 else 0
/-- How many arguments an operation has; none: there is no such operation. -/
def argsS (o : Int) : Option Int :=
  if o = 0 ∨ o = 1 then some 0 else if o = 5 ∨ o = 10 then some 1 else if o = 13 then some 3
  else if 2 ≤ o ∧ o ≤ 12 then some 2 else none

mutual
/-- The first error, and the count behind it. -/
def formedE : EX → Int → Int → Int → Int × Int
  | .node o v i l, n, level, c =>
    if c = 64 ∨ 8 < level then (3, c) else
    match argsS o with
    | none => (11, c + 1)
    | some want =>
      if (l.length : Int) ≠ want then (4, c + 1)
      else if (o ≠ 0 ∧ v ≠ 0) ∨ (o ≠ 1 ∧ i ≠ 0) then (6, c + 1)
      else if (o = 0 ∧ largeS v 65536 = true) ∨ (o = 1 ∧ (i < 0 ∨ n ≤ i)) then (2, c + 1)
      else formedL l n (level + 1) (c + 1)
def formedL : List EX → Int → Int → Int → Int × Int
  | [], _, _, c => (0, c)
  | e :: l, n, level, c => if (formedE e n level c).1 = 0 then formedL l n level (formedE e n level c).2 else formedE e n level c
end

/-- The type of an operation whose arguments have these types; 0: a wrong one. -/
def kindOp (o : Int) (ks : List Int) : Int :=
  if o = 13 then (if ks.getD 0 0 = 2 ∧ ks.getD 1 0 = ks.getD 2 0 then ks.getD 1 0 else 0)
  else if 10 ≤ o then (if ks.all (· == 2) then 2 else 0)
  else if 6 ≤ o then (if ks.all (· == 1) then 2 else 0)
  else (if ks.all (· == 1) then 1 else 0)
mutual
def kindE : EX → Int
  | .node o _ _ l => match kindL l with
    | none => 0
    | some ks => kindOp o ks
/-- The types of all, none where one of them is 0. -/
def kindL : List EX → Option (List Int)
  | [] => some []
  | e :: l => if kindE e = 0 then none else (kindL l).map (kindE e :: ·)
end
mutual
/-- Every operation has as many arguments as it must. -/
def wfE : EX → Prop
  | .node o _ _ l => argsS o = some (l.length : Int) ∧ wfL l
def wfL : List EX → Prop
  | [] => True
  | e :: l => wfE e ∧ wfL l
end
theorem wfL_mem : ∀ {l : List EX} {e : EX}, wfL l → e ∈ l → wfE e
  | a :: l, e, h, he => by
    rcases List.mem_cons.1 he with rfl | he
    · exact h.1
    · exact wfL_mem h.2 he
mutual
theorem formedE_wf : ∀ (e : EX) (n level c : Int), (formedE e n level c).1 = 0 → wfE e
  | .node o v i l, n, level, c, h => by
    rw [formedE] at h
    split at h
    · simp at h
    · split at h
      · simp at h
      · rename_i want ha
        split at h
        · simp at h
        · rename_i hlen
          split at h
          · simp at h
          · split at h
            · simp at h
            · rw [wfE]
              exact ⟨by rw [ha]; simp at hlen; rw [hlen], formedL_wf l n (level + 1) (c + 1) h⟩
theorem formedL_wf : ∀ (l : List EX) (n level c : Int), (formedL l n level c).1 = 0 → wfL l
  | [], _, _, _, _ => by rw [wfL]; trivial
  | e :: l, n, level, c, h => by
    rw [formedL] at h
    rw [wfL]
    split at h
    · rename_i h0
      exact ⟨formedE_wf e n level c h0, formedL_wf l n level _ h⟩
    · rename_i h0
      exact absurd h h0
end
/-- Check: the type and the error. -/
def checkS (e : EX) (n : Int) : Int × Int :=
  if n < 0 ∨ 16 < n then (0, 2)
  else if (formedE e n 1 0).1 ≠ 0 then (0, (formedE e n 1 0).1)
  else if kindE e = 0 then (0, 16) else (kindE e, 0)

def nameS (s : List UInt8) : Bool :=
  s.length ≤ 32 && !s.isEmpty && (match s with | [] => true | c :: _ => decide (c < 48) || decide (57 < c)) &&
  s.all fun c => (97 ≤ c && c ≤ 122) || (65 ≤ c && c ≤ 90) || c == 95 || (48 ≤ c && c ≤ 57)
/-- The first error of variables, those of 'pre' being before them. -/
def varsL : List VT → List VT → Int
  | _, [] => 0
  | pre, v :: l =>
    if nameS v.name.data.toList = false then 7
    else if pre.any (fun u => u.name.toList == v.name.toList) = true then 8
    else if largeS v.low 65536 || largeS v.high 65536 then 2
    else if v.high < v.low then 5
    else if v.init < v.low ∨ v.high < v.init then 2
    else varsL (pre ++ [v]) l
def varsS (l : List VT) : Int := if 16 < l.length then 3 else varsL [] l

/-- The result of an operation on numbers. -/
def applyS (o : Int) (l : List Int) : Int :=
  if o = 2 then l.getD 0 0 + l.getD 1 0
  else if o = 3 then l.getD 0 0 - l.getD 1 0
  else if o = 4 then l.getD 0 0 * l.getD 1 0
  else if o = 5 then - l.getD 0 0
  else if o = 6 then bitS (l.getD 0 0 == l.getD 1 0)
  else if o = 7 then bitS (l.getD 0 0 != l.getD 1 0)
  else if o = 8 then bitS (decide (l.getD 0 0 < l.getD 1 0))
  else if o = 9 then bitS (decide (l.getD 0 0 ≤ l.getD 1 0))
  else if o = 10 then 1 - l.getD 0 0
  else if o = 11 then l.getD 0 0 * l.getD 1 0
  else max (l.getD 0 0) (l.getD 1 0)
mutual
/-- The value of a right expression; none: it overflows. -/
def evalE (vs : List Int) : EX → Option Int
  | .node o v i l =>
    if o = 0 then some v
    else if o = 1 then some (vs.getD i.toNat 0)
    else if o = 13 then
      match l with
      | c :: a :: b :: _ => match evalE vs c with
        | none => none
        | some n => if n = 1 then evalE vs a else evalE vs b
      | _ => none
    else match evalL vs l with
      | none => none
      | some ns => if largeS (applyS o ns) 1073741824 then none else some (applyS o ns)
def evalL (vs : List Int) : List EX → Option (List Int)
  | [] => some []
  | e :: l => match evalE vs e with
    | none => none
    | some n => (evalL vs l).map (n :: ·)
end
/-- Evaluate: the value and the error. -/
def evaluateS (e : EX) (vs : List Int) : Int × Int :=
  if (checkS e vs.length).2 ≠ 0 then (0, (checkS e vs.length).2)
  else if vs.any (fun n => largeS n 65536) then (0, 2)
  else match evalE vs e with
    | none => (0, 17)
    | some n => (n, 0)

/-- The bounds of an operation whose arguments have these bounds. -/
def cmpS (o : Int) (a b : Int × Int) : Int × Int :=
  if o = 6 then (bitS (a.1 == a.2 && a == b), bitS (!(decide (a.2 < b.1) || decide (b.2 < a.1))))
  else if o = 7 then (bitS (decide (a.2 < b.1) || decide (b.2 < a.1)), bitS (!(a.1 == a.2 && a == b)))
  else if o = 8 then (bitS (decide (a.2 < b.1)), bitS (!(decide (b.2 ≤ a.1))))
  else (bitS (decide (a.2 ≤ b.1)), bitS (!(decide (b.2 < a.1))))
def spanOut (l h : Int) : Option (Int × Int) := if largeS l 1073741824 || largeS h 1073741824 then none else some (l, h)
def boundsOp (o : Int) (l : List (Int × Int)) : Option (Int × Int) :=
  let a := l.getD 0 (0, 0)
  let b := l.getD 1 (0, 0)
  let c := l.getD 2 (0, 0)
  if 6 ≤ o ∧ o ≤ 9 then some (cmpS o a b)
  else if o = 10 then some (1 - a.2, 1 - a.1)
  else if o = 11 then some (a.1 * b.1, a.2 * b.2)
  else if o = 12 then some (max a.1 b.1, max a.2 b.2)
  else if o = 13 then (if a = (1, 1) then some b else if a = (0, 0) then some c else some (min b.1 c.1, max b.2 c.2))
  else if o = 2 then spanOut (a.1 + b.1) (a.2 + b.2)
  else if o = 3 then spanOut (a.1 - b.2) (a.2 - b.1)
  else if o = 5 then spanOut (-a.2) (-a.1)
  else spanOut (min (min (a.1 * b.1) (a.1 * b.2)) (min (a.2 * b.1) (a.2 * b.2))) (max (max (a.1 * b.1) (a.1 * b.2)) (max (a.2 * b.1) (a.2 * b.2)))
mutual
def boundsE (vs : List VT) : EX → Option (Int × Int)
  | .node o v i l =>
    match boundsL vs l with
    | none => none
    | some bs =>
      if o = 0 then some (v, v)
      else if o = 1 then some ((vs.getD i.toNat default).low, (vs.getD i.toNat default).high)
      else boundsOp o bs
def boundsL (vs : List VT) : List EX → Option (List (Int × Int))
  | [] => some []
  | e :: l => match boundsE vs e with
    | none => none
    | some b => (boundsL vs l).map (b :: ·)
end
/-- Bounds: low, high, the error. -/
def boundsS (e : EX) (vs : List VT) : Int × Int × Int :=
  if varsS vs ≠ 0 then (0, 0, varsS vs)
  else if (checkS e vs.length).2 ≠ 0 then (0, 0, (checkS e vs.length).2)
  else match boundsE vs e with
    | none => (0, 0, 17)
    | some (a, b) => (a, b, 0)

def zeroE : EX := .node 0 0 0 []
def trueE : EX := .node 6 0 0 [zeroE, zeroE]
def falseE : EX := .node 7 0 0 [zeroE, zeroE]
def truthE (b : Bool) : EX := if b then trueE else falseE
/-- The first rule that applies to an expression with folded arguments. -/
def foldOp : EX → EX
  | .node o v i l =>
    if o = 0 ∨ o = 1 then .node o v i l
    else if o = 10 then
      (if sameE (l.getD 0 zeroE) trueE then falseE else if sameE (l.getD 0 zeroE) falseE then trueE
      else if (l.getD 0 zeroE).op = 10 then (l.getD 0 zeroE).args.getD 0 zeroE else .node o v i l)
    else if o = 11 then
      (if sameE (l.getD 0 zeroE) falseE || sameE (l.getD 1 zeroE) falseE then falseE
      else if sameE (l.getD 0 zeroE) trueE then l.getD 1 zeroE else if sameE (l.getD 1 zeroE) trueE then l.getD 0 zeroE else .node o v i l)
    else if o = 12 then
      (if sameE (l.getD 0 zeroE) trueE || sameE (l.getD 1 zeroE) trueE then trueE
      else if sameE (l.getD 0 zeroE) falseE then l.getD 1 zeroE else if sameE (l.getD 1 zeroE) falseE then l.getD 0 zeroE else .node o v i l)
    else if o = 13 then
      (if sameE (l.getD 0 zeroE) trueE then l.getD 1 zeroE else if sameE (l.getD 0 zeroE) falseE then l.getD 2 zeroE else .node o v i l)
    else if l.all (fun e => e.op == 0) then
      (if o ≤ 5 then (if largeS (applyS o (l.map EX.val)) 65536 then .node o v i l else .node 0 (applyS o (l.map EX.val)) 0 [])
      else truthE (applyS o (l.map EX.val) == 1))
    else .node o v i l
mutual
def foldE : EX → EX
  | .node o v i l => foldOp (.node o v i (foldL l))
def foldL : List EX → List EX
  | [] => []
  | e :: l => foldE e :: foldL l
end
def foldS (e : EX) : EX × Int := if (checkS e 16).2 ≠ 0 then (zeroE, (checkS e 16).2) else (foldE e, 0)
mutual
/-- 'by' in place of variable i. -/
def replE (i : Int) (by_ : EX) : EX → EX
  | .node o v j l => if o = 1 ∧ j = i then by_ else .node o v j (replL i by_ l)
def replL (i : Int) (by_ : EX) : List EX → List EX
  | [] => []
  | e :: l => replE i by_ e :: replL i by_ l
end
def substS (e : EX) (i : Int) (by_ : EX) : EX × Int :=
  if (checkS e 16).2 ≠ 0 then (zeroE, (checkS e 16).2)
  else if (checkS by_ 16).2 ≠ 0 then (zeroE, (checkS by_ 16).2)
  else if (checkS by_ 16).1 ≠ 1 then (zeroE, 16)
  else if i < 0 ∨ 16 ≤ i then (zeroE, 2)
  else if (checkS (replE i by_ e) 16).2 ≠ 0 then (zeroE, (checkS (replE i by_ e) 16).2)
  else (replE i by_ e, 0)
mutual
def sizeE : EX → Int
  | .node _ _ _ l => 1 + sizeL l
def sizeL : List EX → Int
  | [] => 0
  | e :: l => sizeE e + sizeL l
end
mutual
def fewE : EX → Int → Int → Bool × Int
  | .node _ _ _ l, level, left => if left = 0 ∨ 10 < level ∨ 4 < l.length then (false, left) else fewL l (level + 1) (left - 1)
def fewL : List EX → Int → Int → Bool × Int
  | [], _, left => (true, left)
  | e :: l, level, left => if (fewE e level left).1 then fewL l level (fewE e level left).2 else fewE e level left
end
def smallE (e : EX) : Bool := (fewE e 1 80).1
end Go.Proofs.Ytmclnnpaephkpaa
