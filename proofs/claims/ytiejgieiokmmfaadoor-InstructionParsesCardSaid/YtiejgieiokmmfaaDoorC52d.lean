/-
  Concat, Start, Scan, Steps, Run, and the model's scan.
-/
import Derived.Test.YtiejgieiokmmfaaDoorC52c
namespace Go.Proofs.YtiejgieiokmmfaaDoor
set_option linter.unusedVariables false
set_option linter.unusedSimpArgs false
set_option linter.unnecessarySimpa false
set_option linter.unusedSectionVars false
open Go.RowKit
theorem CC_c0 {g : FuncId} {args : List PV} {h : Objs} {v : PV × Objs} (e : CS g args h = some v) : SS.CC g args h = some v := by
  rw [CC_eq SS_ok]
  show orR (CS g args h) _ = _
  rw [e]; rfl
theorem c66 (n : Nat) (h : n ≤ 1073741824) : SS.CC 66 [.sl false 0 [], .int .i64 (n : Int)] [] = Ret (.sl true 1 []) := by
  refine CC_c0 ?_
  show (match decide (0 ≤ (n : Int)) && decide ((n : Int) ≤ 1073741824) with | true => some (PV.sl true 1 [], ([] : Objs)) | false => none) = _
  rw [decT (by omega), decT (by omega)]
  rfl
/-! ### Concat -/
def catS (l : List (List Bool)) : List PV := l.map fun x => .sl false 1 (bitL x)
def lenS (l : List (List Bool)) : Nat := (l.map List.length).sum
theorem c39 (l : List (List Bool)) (h : lenS l ≤ 1000000) (hl : l.length ≤ 1000000) : SS.CC 39 [.sl false 1 (catS l)] [] = Ret (.sl true 1 (bitL l.flatten)) := by
  have hg : ∀ {k : Nat} {x : List Bool} {K : PV → R}, l[k]? = some x → lgetX (catS l) (k : Int) K = K (.sl false 1 (bitL x)) := fun hx => lget_map hx
  have hln : (catS l).length = l.length := by simp [catS]
  have sum_le : ∀ k, lenS (l.take k) ≤ lenS l := fun k => by
    have : lenS l = lenS (l.take k) + lenS (l.drop k) := by unfold lenS; rw [← List.sum_append, ← List.map_append, List.take_append_drop]
    omega
  have take_succ : ∀ {k : Nat} {x : List Bool}, l[k]? = some x → l.take (k + 1) = l.take k ++ [x] := fun hx => by
    obtain ⟨hk, rfl⟩ := List.getElem?_eq_some_iff.1 hx
    rw [← List.take_append_getElem hk]
  have snd : ∀ m k : Nat, k + m = l.length → g39_L12 (bitL (l.take k).flatten) (catS l) (k : Int) = Ret (.sl true 1 (bitL l.flatten)) := by
    intro m
    induction m with
    | zero => intro k hk; rw [g39_L12_eq, decF (by rw [hln]; omega), bsel_false, List.take_of_length_le (by omega)]
    | succ m ih =>
      intro k hk
      obtain ⟨x, hx⟩ := get_lt (show k < l.length by omega)
      have hs := sum_le (k + 1)
      rw [take_succ hx] at hs
      rw [g39_L12_eq, decT (by rw [hln]; omega), bsel_true, hg hx, vL_mk, wrs (by omega), chk_of, bitL_app]
      · have := ih (k + 1) (by omega)
        rw [take_succ hx] at this
        rw [List.flatten_append] at this
        simpa using this
      · refine decT ?_
        unfold lenS at hs
        simp only [bitL_len, List.length_flatten, LIM]
        simp only [List.map_append, List.sum_append, List.map_cons, List.map_nil, List.sum_cons, List.sum_nil] at hs
        unfold lenS at h
        omega
  have fst : ∀ m k : Nat, k + m = l.length → g39_L4 (catS l) ((lenS (l.take k) : Nat) : Int) (k : Int) = Ret (.sl true 1 (bitL l.flatten)) := by
    intro m
    induction m with
    | zero =>
      intro k hk
      rw [g39_L4_eq, decF (by rw [hln]; omega), bsel_false, clX_of (c66 _ (by have := sum_le k; omega)), vL_mk]
      exact snd l.length 0 (by omega)
    | succ m ih =>
      intro k hk
      obtain ⟨x, hx⟩ := get_lt (show k < l.length by omega)
      have hs := sum_le (k + 1)
      have e : lenS (l.take (k + 1)) = lenS (l.take k) + x.length := by rw [take_succ hx]; simp [lenS]
      rw [g39_L4_eq, decT (by rw [hln]; omega), bsel_true, hg hx, vL_mk, bitL_len, wr0 (k := ((lenS (l.take k) : Nat) : Int) + (x.length : Int)) (by omega) (by omega), decF (by omega), bsel_false, wrs (by omega)]
      have := ih (k + 1) (by omega)
      rw [e] at this
      exact this
  rw [g39_eq]
  exact fst l.length 0 (by omega)
/-! ### runs -/
theorem run_len (l : List Ins) : ∀ (f i : Nat) (acc : Bool) (b : List Bool) (st : List Int), (runS l f i acc b st).2.length = b.length
  | 0, _, _, _, _ => rfl
  | f + 1, i, acc, b, st => by
    rw [runS]
    split
    · rfl
    · split
      · exact run_len l f _ _ _ _
      · split
        · rw [run_len l f]; simp
        · exact run_len l f _ _ _ _
theorem run_steps (l : List Ins) : ∀ (f i : Nat) (acc : Bool) (b : List Bool) (st : List Int), (runS l f i acc b st).1.length ≤ st.length + f
  | 0, _, _, _, _ => by simp [runS]
  | f + 1, i, acc, b, st => by
    rw [runS]
    split
    · simp
    · rename_i x hx
      split
      · have := run_steps l f (i + 1) (loadS x.1 acc (b.getD x.2.toNat false)) b (st ++ [(i : Int)]); simp at this ⊢; omega
      · split
        · have := run_steps l f (i + 1) acc (b.set x.2.toNat (storeS x.1 acc (b.getD x.2.toNat false))) (st ++ [(i : Int)]); simp at this ⊢; omega
        · have := run_steps l f (if jumpS x.1 acc = true then x.2.toNat else i + 1) acc b (st ++ [(i : Int)]); simp at this ⊢; omega
def scanS (p : Prg) (b : List Bool) : List Int × List Bool := runS p.list p.list.length 0 false b []
def sttS (p : Prg) (b : List Bool) : Stt := ⟨(b.take (p.ni + p.no).toNat).drop p.ni.toNat, b.drop (p.ni + p.no).toNat⟩
theorem c40 (p : Prg) {w : Nat} (hok : okL w p.list) {b : List Bool} (hb : b.length = w) : SS.CC 40 [prgP p, .slh 0 0 w 1] [some (bitL b)] = runP (scanS p b) := by
  unfold prgP
  rw [g40_eq, clX_of c63, vL_mk]
  exact l40 p w hok p.list.length 0 false b [] hb (by omega) (by simp) (by omega)
theorem c42 (p : Prg) {w : Nat} (hok : okL w p.list) {b : List Bool} (hb : b.length = w) : SS.CC 42 [prgP p, .slh 0 0 w 1] [some (bitL b)] = runP (scanS p b) := by
  unfold prgP
  rw [g42_eq]
  exact l42 p w hok p.list.length 0 false b [] hb (by omega) (by simp) (by omega)
theorem c41 (p : Prg) (hh : headS p = 0) {b : List Bool} (hb : b.length = wd p) : SS.CC 41 [prgP p, .sl false 1 (bitL b)] [] = Ret (sttP (sttS p b)) := by
  have := head0 hh
  unfold wd at hb
  unfold prgP sttP sttS
  rw [g41_eq, wr0 (k := p.ni + p.no) (by omega) (by omega), chk_of, chk_of]
  · simp [bitL, List.map_take, List.map_drop]
    rw [List.take_of_length_le (by simp)]
  · rw [decT (by omega), decT (by simp; omega), decT (by omega)]; rfl
  · rw [decT (by omega), decT (by omega), decT (by omega), decT (by simp; omega)]; rfl
/-- The state that a scan leads to. -/
def nextS (p : Prg) (s : Stt) (inp : List Bool) : Stt := sttS p (scanS p (inp ++ s.outs ++ s.mem)).2
def stepsS (p : Prg) (s : Stt) (inp : List Bool) : List Int := (scanS p (inp ++ s.outs ++ s.mem)).1
/-- A state of the right size. -/
def okS (p : Prg) (s : Stt) : Prop := (s.outs.length : Int) = p.no ∧ (s.mem.length : Int) = p.nm
theorem next_ok {p : Prg} (hh : headS p = 0) {s : Stt} {inp : List Bool} (hs : okS p s) (hi : (inp.length : Int) = p.ni) : okS p (nextS p s inp) := by
  have := head0 hh
  unfold okS at *
  unfold nextS sttS
  have hl : (scanS p (inp ++ s.outs ++ s.mem)).2.length = inp.length + s.outs.length + s.mem.length := by unfold scanS; rw [run_len]; simp; omega
  simp only [List.length_drop, List.length_take, hl]
  omega
theorem c12 (p : Prg) (h : checkS p = 0) : SS.CC 12 [prgP p] [] = Ret (.tuple [sttP ⟨List.replicate p.no.toNat false, p.start⟩, .int .i64 0]) := by
  have hh := head0 (check0 h).1
  have h25 := c25 p
  unfold prgP at h25 ⊢
  rw [g12_eq, clX_of h25, h, vI_mk, show ((0 : Int) != 0) = false from rfl, bsel_false, chk_of, chk_of]
  · simp [sttP, bitL, List.map_replicate]
  · exact decT (by simp [LIM]; omega)
  · rw [decT rfl, decT (by omega), decT (by omega)]; rfl
theorem c12e (p : Prg) (h : checkS p ≠ 0) : SS.CC 12 [prgP p] [] = Ret (.tuple [sttP ⟨[], []⟩, .int .i64 (checkS p)]) := by
  have h25 := c25 p
  unfold prgP at h25 ⊢
  rw [g12_eq, clX_of h25, vI_mk, show (checkS p != 0) = true by simpa using h, bsel_true]
  rfl
theorem c43e (p : Prg) (h : checkS p ≠ 0) (s : Stt) (inp : List Bool) : SS.CC 43 [prgP p, sttP s, .sl false 1 (bitL inp)] [] = Ret (.tuple [.sl false 1 [], .int .i64 (checkS p)]) := by
  have h25 := c25 p
  unfold prgP at h25 ⊢
  unfold sttP
  rw [g43_eq, clX_of h25, vI_mk, show (checkS p != 0) = true by simpa using h, bsel_true]
theorem c43s (p : Prg) (h : checkS p = 0) (s : Stt) (inp : List Bool) (hn : ¬ ((inp.length : Int) = p.ni ∧ okS p s)) : SS.CC 43 [prgP p, sttP s, .sl false 1 (bitL inp)] [] = Ret (.tuple [.sl false 1 [], .int .i64 4]) := by
  have h25 := c25 p
  unfold prgP at h25 ⊢
  unfold sttP
  rw [g43_eq, clX_of h25, h, vI_mk, show ((0 : Int) != 0) = false from rfl, bsel_false]
  simp only [bitL_len]
  by_cases h1 : (inp.length : Int) = p.ni
  · rw [show ((inp.length : Int) != p.ni) = false by simp [h1], bsel_false]
    by_cases h2 : (s.outs.length : Int) = p.no
    · rw [show ((s.outs.length : Int) != p.no) = false by simp [h2], bsel_false]
      have h3 : ¬ (s.mem.length : Int) = p.nm := fun h3 => hn ⟨h1, h2, h3⟩
      rw [show ((s.mem.length : Int) != p.nm) = true by simpa using h3, bsel_true]
    · rw [show ((s.outs.length : Int) != p.no) = true by simpa using h2, bsel_true]
  · rw [show ((inp.length : Int) != p.ni) = true by simpa using h1, bsel_true]
theorem c43 (p : Prg) (h : checkS p = 0) (s : Stt) (inp : List Bool) (h1 : (inp.length : Int) = p.ni) (h2 : okS p s) (hw : 0 < wd p) :
    SS.CC 43 [prgP p, sttP s, .sl false 1 (bitL inp)] [] = some (.tuple [.slh 0 0 (wd p) 1, .int .i64 0], [some (bitL (inp ++ s.outs ++ s.mem))]) := by
  have h25 := c25 p
  have hh := head0 (check0 h).1
  have hl : (inp ++ s.outs ++ s.mem).length = wd p := by unfold okS at h2; unfold wd; simp; omega
  unfold prgP at h25 ⊢
  unfold sttP
  unfold okS at h2
  have h39 := c39 [inp, s.outs, s.mem] (by simp [lenS]; omega) (by simp)
  rw [show [inp, s.outs, s.mem].flatten = inp ++ s.outs ++ s.mem by simp] at h39
  simp only [catS, List.map_cons, List.map_nil] at h39
  rw [g43_eq, clX_of h25, h, vI_mk, show ((0 : Int) != 0) = false from rfl, bsel_false]
  simp only [bitL_len]
  rw [show ((inp.length : Int) != p.ni) = false by simp [h1], bsel_false, show ((s.outs.length : Int) != p.no) = false by simp [h2.1], bsel_false, show ((s.mem.length : Int) != p.nm) = false by simp [h2.2], bsel_false, clX_of h39, vL_mk, bitL_plainC, bitL_flC, bitL_len, hl, decT hw]
  rfl
theorem c17 (p : Prg) (h : checkS p = 0) (s : Stt) (inp : List Bool) (h1 : (inp.length : Int) = p.ni) (h2 : okS p s) (hw : 0 < wd p) :
    SS.CC 17 [prgP p, sttP s, .sl false 1 (bitL inp)] [] = Ret (.tuple [sttP (nextS p s inp), .int .i64 0]) := by
  have h43 := c43 p h s inp h1 h2 hw
  have hl : (inp ++ s.outs ++ s.mem).length = wd p := by have hh := head0 (check0 h).1; unfold okS at h2; unfold wd; simp; omega
  have h40 := c40 p (check0 h).2.1 hl
  have hl2 : (scanS p (inp ++ s.outs ++ s.mem)).2.length = wd p := by unfold scanS; rw [run_len]; exact hl
  have h41 := c41 p (check0 h).1 hl2
  unfold prgP at h43 h40 h41 ⊢
  unfold sttP at h43 h41 ⊢
  rw [g17_eq, clH_of h43, h43_0_mk0, bitL_plainC, bitL_flC, Bool.and_self, chk_of rfl, show ((0 : Int) != 0) = false from rfl, bsel_false, chk_of rfl, chk_of rfl, clH_of h40, h40_0_mk, bitL_plainC, bitL_of, Bool.and_self, chk_of rfl, bitL_chunk _ (by omega), clX_of h41, v32_mk, chk_of]
  · rfl
  · rw [bitL_len, hl2, decT (by omega)]; rfl
theorem c17e (p : Prg) (s : Stt) (inp : List Bool) {e : Int} (he : e ≠ 0) (h : SS.CC 43 [prgP p, sttP s, .sl false 1 (bitL inp)] [] = Ret (.tuple [.sl false 1 [], .int .i64 e])) : SS.CC 17 [prgP p, sttP s, .sl false 1 (bitL inp)] [] = Ret (.tuple [sttP ⟨[], []⟩, .int .i64 e]) := by
  unfold prgP sttP at h ⊢
  rw [g17_eq, clH_of h, h43_0_mk1, show (e != 0) = true by simpa using he, bsel_true]
  rfl
theorem c18 (p : Prg) (h : checkS p = 0) (s : Stt) (inp : List Bool) (h1 : (inp.length : Int) = p.ni) (h2 : okS p s) (hw : 0 < wd p) :
    SS.CC 18 [prgP p, sttP s, .sl false 1 (bitL inp)] [] = Ret (.tuple [.sl false 1 (intL (stepsS p s inp)), .int .i64 0]) := by
  have h43 := c43 p h s inp h1 h2 hw
  have hl : (inp ++ s.outs ++ s.mem).length = wd p := by have hh := head0 (check0 h).1; unfold okS at h2; unfold wd; simp; omega
  have h40 := c40 p (check0 h).2.1 hl
  unfold prgP at h43 h40 ⊢
  unfold sttP at h43 ⊢
  rw [g18_eq, clH_of h43, h43_0_mk0, bitL_plainC, bitL_flC, Bool.and_self, chk_of rfl, show ((0 : Int) != 0) = false from rfl, bsel_false, chk_of rfl, chk_of rfl, clH_of h40, h40_0_mk, bitL_plainC, Bool.and_self, chk_of rfl]
  rfl
theorem c18e (p : Prg) (s : Stt) (inp : List Bool) {e : Int} (he : e ≠ 0) (h : SS.CC 43 [prgP p, sttP s, .sl false 1 (bitL inp)] [] = Ret (.tuple [.sl false 1 [], .int .i64 e])) : SS.CC 18 [prgP p, sttP s, .sl false 1 (bitL inp)] [] = Ret (.tuple [.sl false 1 [], .int .i64 e]) := by
  unfold prgP sttP at h ⊢
  rw [g18_eq, clH_of h, h43_0_mk1, show (e != 0) = true by simpa using he, bsel_true]
theorem c16 (p : Prg) (h : checkS p = 0) (s : Stt) (inp : List Bool) (h1 : (inp.length : Int) = p.ni) (h2 : okS p s) (hw : 0 < wd p) :
    SS.CC 16 [prgP p, sttP s, .sl false 1 (bitL inp)] [] = Ret (.tuple [sttP (nextS p s inp), .sl false 1 (intL (stepsS p s inp))]) := by
  have hh := head0 (check0 h).1
  have hl : (inp ++ s.outs ++ s.mem).length = wd p := by unfold okS at h2; unfold wd; simp; omega
  have h42 := c42 p (check0 h).2.1 hl
  have hl2 : (scanS p (inp ++ s.outs ++ s.mem)).2.length = wd p := by unfold scanS; rw [run_len]; exact hl
  have hn : 0 + (bitL inp).length + (bitL s.outs).length + (bitL s.mem).length = wd p := by rw [← hl]; simp; omega
  unfold okS at h2
  unfold prgP at h42 ⊢
  unfold sttP
  rw [g16_eq]
  have hL : decide (wd p ≤ LIM) = true := decT (by unfold LIM wd; omega)
  simp only [bitL_fl, bitL_lit, bitL_app, hn, bitL_plainC, hL, Bool.and_self]
  rw [chk_of (by simp [LIM]; omega), chk_of (by simp [LIM]; omega), chk_of rfl, chk_of (by rw [Nat.ble_eq]; omega), chk_of rfl, clH_of h42, h42_0_mk]
  simp only [bitL_plainC, bitL_of, Bool.and_true]
  rw [chk_of rfl, bitL_chunk _ (by omega), wr0 (k := p.ni + p.no) (by omega) (by omega), chk_of, chk_of, chk_of]
  · simp [nextS, stepsS, sttS, bitL, List.map_take, List.map_drop]
  · unfold wd at hl2; rw [decT (by omega), decT (by simp only [bitL_len]; omega)]; rfl
  · unfold wd at hl2; rw [decT (by omega), decT (by omega), decT (by simp only [bitL_len]; omega)]; rfl
  · rw [bitL_len, hl2, decT (by omega)]; rfl
end Go.Proofs.YtiejgieiokmmfaaDoor
