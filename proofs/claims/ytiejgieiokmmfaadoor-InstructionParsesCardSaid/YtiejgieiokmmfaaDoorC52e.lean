/-
  Run; the laws Runs and Scans.
-/
import Derived.Test.YtiejgieiokmmfaaDoorC52d
import Derived.Test.YtiejgieiokmmfaaDoorT52x
import Derived.Test.YtiejgieiokmmfaaDoorK52
namespace Go.Proofs.YtiejgieiokmmfaaDoor
set_option linter.unusedVariables false
set_option linter.unusedSimpArgs false
set_option linter.unnecessarySimpa false
set_option linter.unusedSectionVars false
open Go.RowKit
def sttL (l : List Stt) : List PV := l.map sttP
@[simp] theorem sttL_len (l : List Stt) : (sttL l).length = l.length := by simp [sttL]
theorem sttL_snoc (a : List Stt) (x : Stt) : sttL a ++ [sttP x] = sttL (a ++ [x]) := by simp [sttL]
theorem lget_stt {l : List Stt} {k : Nat} {b : Stt} {K : PV → R} (h : l[k]? = some b) : lgetX (sttL l) (k : Int) K = K (sttP b) := lget_map h
theorem lget_cat {l : List (List Bool)} {k : Nat} {b : List Bool} {K : PV → R} (h : l[k]? = some b) : lgetX (catS l) (k : Int) K = K (.sl false 1 (bitL b)) := lget_map h
@[simp] theorem catS_len (l : List (List Bool)) : (catS l).length = l.length := by simp [catS]
theorem catS_snoc (a : List (List Bool)) (x : List Bool) : catS a ++ [.sl false 1 (bitL x)] = catS (a ++ [x]) := by simp [catS]
def runsS (p : Prg) : Stt → List (List Bool) → List Stt
  | _, [] => []
  | s, i :: r => nextS p s i :: runsS p (nextS p s i) r
def stt0 (p : Prg) : Stt := ⟨List.replicate p.no.toNat false, p.start⟩
theorem stt0_ok {p : Prg} (hh : headS p = 0) : okS p (stt0 p) := by
  have := head0 hh
  unfold okS stt0
  simp only [List.length_replicate]; omega
theorem runs_len (p : Prg) : ∀ (l : List (List Bool)) (s : Stt), (runsS p s l).length = l.length
  | [], _ => rfl
  | i :: r, s => by rw [runsS, List.length_cons, runs_len p r, List.length_cons]
/-- One turn of Run's loop. -/
theorem turn15 (p : Prg) (h : checkS p = 0) (hw : 0 < wd p) (ins : List (List Bool)) (hn : ins.length ≤ 100000) {k : Nat} {x : List Bool} (hx : ins[k]? = some x) (hi : (x.length : Int) = p.ni) (s : Stt) (hs : okS p s) (out : List Stt) (ho : out.length = k) :
    g15_L7 p.ni p.no p.nm (bitL p.start) (insL p.list) (catS ins) (bitL s.outs) (bitL s.mem) (sttL out) (k : Int) =
    g15_L7 p.ni p.no p.nm (bitL p.start) (insL p.list) (catS ins) (bitL (nextS p s x).outs) (bitL (nextS p s x).mem) (sttL (out ++ [nextS p s x])) ((k + 1 : Nat) : Int) := by
  have hk := (List.getElem?_eq_some_iff.1 hx).1
  have hh := head0 (check0 h).1
  have hl : (x ++ s.outs ++ s.mem).length = wd p := by unfold okS at hs; unfold wd; simp; omega
  have h40 := c40 p (check0 h).2.1 hl
  have hl2 : (scanS p (x ++ s.outs ++ s.mem)).2.length = wd p := by unfold scanS; rw [run_len]; exact hl
  have h41 := c41 p (check0 h).1 hl2
  have h39 := c39 [x, s.outs, s.mem] (by unfold okS at hs; simp [lenS]; omega) (by simp)
  rw [show [x, s.outs, s.mem].flatten = x ++ s.outs ++ s.mem by simp] at h39
  simp only [catS, List.map_cons, List.map_nil] at h39
  unfold prgP at h40 h41
  unfold sttP at h41
  rw [g15_L7_eq, decT (by simp; omega), bsel_true, lget_cat hx, vL_mk, bitL_len, show ((x.length : Int) != p.ni) = false by simp [hi], bsel_false, clX_of h39, vL_mk, bitL_plainC, bitL_len, hl, decT hw, Bool.and_self, chk_of rfl, chk_of rfl, clH_of h40, h40_0_mk, bitL_plainC, bitL_of, Bool.and_self, chk_of rfl, bitL_chunk _ (by omega), chk_of (by rw [bitL_len, hl2, decT (by omega)]; rfl), clX_of h41, v32_mk, chk_of (decT (by simp [LIM]; omega)), wrs (by omega)]
  show g15_L7 _ _ _ _ _ _ _ _ (sttL out ++ [sttP (sttS p (scanS p (x ++ s.outs ++ s.mem)).2)]) _ = _
  rw [sttL_snoc]
  rfl
theorem l15 (p : Prg) (h : checkS p = 0) (hw : 0 < wd p) (ins : List (List Bool)) (hn : ins.length ≤ 100000) : ∀ (m k : Nat) (s : Stt) (out : List Stt), k + m = ins.length → out.length = k → okS p s → (∀ i, i ∈ ins.drop k → (i.length : Int) = p.ni) →
    g15_L7 p.ni p.no p.nm (bitL p.start) (insL p.list) (catS ins) (bitL s.outs) (bitL s.mem) (sttL out) (k : Int) = Ret (.tuple [.sl false 2 (sttL (out ++ runsS p s (ins.drop k))), .int .i64 0]) := by
  intro m
  induction m with
  | zero =>
    intro k s out hk ho hs hi
    rw [g15_L7_eq, decF (by simp; omega), bsel_false, List.drop_of_length_le (by omega), runsS, List.append_nil]
  | succ m ih =>
    intro k s out hk ho hs hi
    obtain ⟨x, hx⟩ := get_lt (show k < ins.length by omega)
    have hd : ins.drop k = x :: ins.drop (k + 1) := by
      obtain ⟨h1, rfl⟩ := List.getElem?_eq_some_iff.1 hx
      exact List.drop_eq_getElem_cons h1
    rw [hd] at hi ⊢
    have hxi := hi x (by simp)
    rw [turn15 p h hw ins hn hx hxi s hs out ho, ih (k + 1) _ _ (by omega) (by simp [ho]) (next_ok (check0 h).1 hs hxi) fun i hi' => hi i (by simp [hi']), runsS, List.append_assoc]
    rfl
theorem c15 (p : Prg) (h : checkS p = 0) (hw : 0 < wd p) (ins : List (List Bool)) (hn : ins.length ≤ 100000) (hi : ∀ i, i ∈ ins → (i.length : Int) = p.ni) :
    SS.CC 15 [prgP p, .sl false 1 (catS ins)] [] = Ret (.tuple [.sl false 2 (sttL (runsS p (stt0 p) ins)), .int .i64 0]) := by
  have h12 := c12 p h
  have hk := l15 p h hw ins hn ins.length 0 (stt0 p) [] (by omega) rfl (stt0_ok (check0 h).1) (by simpa using hi)
  unfold prgP at h12 ⊢
  unfold sttP at h12
  rw [g15_eq, clX_of h12, w_32_3_mk, show ((0 : Int) != 0) = false from rfl, bsel_false]
  exact hk
theorem c15s (p : Prg) (h : checkS p = 0) (hw : 0 < wd p) (ins : List (List Bool)) (bad : List Bool) (hn : ins.length ≤ 10000) (hi : ∀ i, i ∈ ins → (i.length : Int) = p.ni) (hb : (bad.length : Int) ≠ p.ni) :
    SS.CC 15 [prgP p, .sl false 1 (catS (ins ++ [bad]))] [] = Ret (.tuple [.sl false 2 [], .int .i64 4]) := by
  have h12 := c12 p h
  unfold prgP at h12 ⊢
  unfold sttP at h12
  rw [g15_eq, clX_of h12, w_32_3_mk, show ((0 : Int) != 0) = false from rfl, bsel_false]
  have key : ∀ (m k : Nat) (s : Stt) (out : List Stt), k + m = ins.length → out.length = k → okS p s →
    g15_L7 p.ni p.no p.nm (bitL p.start) (insL p.list) (catS (ins ++ [bad])) (bitL s.outs) (bitL s.mem) (sttL out) (k : Int) = Ret (.tuple [.sl false 2 [], .int .i64 4]) := by
    intro m
    induction m with
    | zero =>
      intro k s out hk ho hs
      rw [g15_L7_eq, decT (by simp; omega), bsel_true, lget_cat (b := bad) (by rw [List.getElem?_append_right (by omega), show k - ins.length = 0 by omega]; rfl), vL_mk, bitL_len, show ((bad.length : Int) != p.ni) = true by simpa using hb, bsel_true]
    | succ m ih =>
      intro k s out hk ho hs
      obtain ⟨x, hx⟩ := get_lt (show k < ins.length by omega)
      have hxi := hi x (List.mem_of_getElem? hx)
      rw [turn15 p h hw (ins ++ [bad]) (by simp; omega) (by rw [List.getElem?_append_left (by omega)]; exact hx) hxi s hs out ho]
      exact ih (k + 1) _ _ (by omega) (by simp [ho]) (next_ok (check0 h).1 hs hxi)
  exact key ins.length 0 (stt0 p) [] (by omega) rfl (stt0_ok (check0 h).1)
theorem c15e (p : Prg) (h : checkS p ≠ 0) (l : List PV) : SS.CC 15 [prgP p, .sl false 1 l] [] = Ret (.tuple [.sl false 2 [], .int .i64 (checkS p)]) := by
  have h12 := c12e p h
  unfold prgP at h12 ⊢
  unfold sttP at h12
  rw [g15_eq, clX_of h12, w_32_3_mk, show (checkS p != 0) = true by simpa using h, bsel_true]
/-! ### Runs -/
def encB (l : List UInt8) : List PV := l.map fun x => .int .u8 (x.toNat : Int)
theorem lget_encB {l : List UInt8} {k : Nat} {K : PV → R} {y : UInt8} (h : l[k]? = some y) : lgetX (encB l) (k : Int) K = K (.int .u8 (y.toNat : Int)) := lget_map h
def inS (l : List UInt8) : List (List Bool) := l.map fun x => bitsS (x.toNat : Int) 3
theorem c14_2 (n : Int) : SS.CC 14 [.int .i64 n, .int .i64 2] [] = Ret (.sl false 1 (bitL (bitsS n 2))) := c14 n 2 (by decide)
theorem c14_3 (n : Int) : SS.CC 14 [.int .i64 n, .int .i64 3] [] = Ret (.sl false 1 (bitL (bitsS n 3))) := c14 n 3 (by decide)
theorem c14i (n k : Int) (h0 : 0 ≤ k) (h1 : k ≤ 1000) : SS.CC 14 [.int .i64 n, .int .i64 k] [] = Ret (.sl false 1 (bitL (bitsS n k.toNat))) := by
  have := c14 n k.toNat (by omega)
  rwa [show ((k.toNat : Nat) : Int) = k by omega] at this
theorem c10k {K : PV → R} : clX SS.CC 10 [] K = K (.bool true) := clX_of c10
theorem law3 (s : Int) (l : List (UInt8 × UInt8)) (ins : List UInt8) : SS.CC 3 [.agg [.int .u8 s, .sl false 2 (u2L l)], .sl false 1 (encB ins)] [] = Ret (.bool true) := by
  have hlen : (encB ins).length = ins.length := by simp [encB]
  rw [g3_eq, c10k, vB_mk, Bool.not_true, bsel_false]
  by_cases h10 : 10 < ins.length
  · rw [decT (by rw [hlen]; omega), bsel_true, c10k, vB_mk]
  rw [decF (by rw [hlen]; omega), bsel_false, clX_of (c11 s l)]
  obtain ⟨p, hp⟩ : ∃ p, makeS s l = p := ⟨_, rfl⟩
  have h : checkS p = 0 := by rw [← hp]; exact make_ok s l
  have hni : p.ni = 3 := by rw [← hp]; rfl
  have hno : p.no = 2 := by rw [← hp]; rfl
  have hnm : p.nm = 3 := by rw [← hp]; rfl
  have hw : 0 < wd p := by unfold wd; omega
  rw [hp]
  have h12 := c12 p h
  have h0 := c13t (a := stt0 p) (b := stt0 p) (by simp [stt0]; omega) (by have := head0 (check0 h).1; simp [stt0]; omega) rfl
  have hin : ∀ i, i ∈ inS ins → (i.length : Int) = p.ni := fun i hi => by
    obtain ⟨x, _, rfl⟩ := List.mem_map.1 hi
    rw [bitsS_len, hni]; rfl
  have hil : (inS ins).length = ins.length := by simp [inS]
  have h15 := c15 p h hw (inS ins) (by omega) hin
  have h15s := c15s p h hw (inS ins) [true] (by omega) hin (by rw [hni]; decide)
  have h16 := fun (s : Stt) (x : List Bool) (h1 : (x.length : Int) = p.ni) (h2 : okS p s) => c16 p h s x h1 h2 hw
  simp only [stt0, hno] at h0
  unfold prgP at h12 h15 h15s h16 ⊢
  unfold sttP at h12 h0 h16
  rw [v29_mk, clX_of h12, w_32_3_mk, show ((0 : Int) != 0) = false from rfl, bsel_false]
  simp only [hno]
  have h0' : SS.CC 13 [.agg [.sl false 1 (bitL (List.replicate (2 : Int).toNat false)), .sl false 1 (bitL p.start)], .agg [.sl false 1 [.bool false, .bool false], .sl false 1 (bitL p.start)]] [] = Ret (.bool true) := h0
  rw [clX_of h0', vB_mk, Bool.not_true, bsel_false]
  have snd : ∀ (m k : Nat) (st : Stt) (done : List Stt), k + m = ins.length → done.length = k → okS p st →
      g3_L18 (sttL (done ++ runsS p st ((inS ins).drop k))) p.ni p.no p.nm (bitL p.start) (insL p.list) (bitL st.outs) (bitL st.mem) (k : Int) (catS (inS ins)) = Ret (.bool true) := by
    intro m
    induction m with
    | zero =>
      intro k st done hk hd hst
      rw [g3_L18_eq, decF (by simp [runs_len]; omega), bsel_false]
    | succ m ih =>
      intro k st done hk hd hst
      obtain ⟨x, hx⟩ := get_lt (show k < (inS ins).length by omega)
      have hdr : (inS ins).drop k = x :: (inS ins).drop (k + 1) := by
        obtain ⟨h1, rfl⟩ := List.getElem?_eq_some_iff.1 hx
        exact List.drop_eq_getElem_cons h1
      have hxi := hin x (List.mem_of_getElem? hx)
      have hok := next_ok (check0 h).1 hst hxi
      have hh := head0 (check0 h).1
      have h13 := c13t (a := nextS p st x) (b := nextS p st x) (by unfold okS at hok; omega) (by unfold okS at hok; omega) rfl
      unfold sttP at h13
      have hgx : (done ++ runsS p st ((inS ins).drop k))[k]? = some (nextS p st x) := by
        rw [List.getElem?_append_right (by omega), hdr, hd, Nat.sub_self]; rfl
      rw [g3_L18_eq, decT (by simp [runs_len]; omega), bsel_true, lget_cat hx, vL_mk, clX_of (h16 st x hxi hst), w_32_43_mk, lget_stt hgx, sttP, v32_mk, clX_of h13, vB_mk, Bool.not_true, bsel_false, wrs (by omega)]
      have := ih (k + 1) (nextS p st x) (done ++ [nextS p st x]) (by omega) (by simp [hd]) hok
      rw [hdr, runsS]
      rwa [List.append_assoc] at this
  have fst : ∀ (m k : Nat), k + m = ins.length →
      g3_L10 (encB ins) p.ni 2 p.nm (bitL p.start) (insL p.list) (bitL (List.replicate (2 : Int).toNat false)) (bitL p.start) (catS ((inS ins).take k)) (k : Int) = Ret (.bool true) := by
    intro m
    induction m with
    | zero =>
      intro k hk
      rw [List.take_of_length_le (by omega), ← hno]
      rw [g3_L10_eq, decF (by rw [hlen]; omega), bsel_false, clX_of h15, w_40_3_mk, chk_of (decT (by simp [LIM]; omega)), show ([.sl false 1 [.bool true]] : List PV) = [.sl false 1 (bitL [true])] from rfl, catS_snoc, clX_of h15s, w_40_3_mk, show ((0 : Int) != 0) = false from rfl, bsel_false, show ((4 : Int) != 4) = false from rfl, bsel_false,
        show (((sttL (runsS p (stt0 p) (inS ins))).length : Int) != ((encB ins).length : Int)) = false by simp [runs_len, hlen, hil], bsel_false]
      have := snd ins.length 0 (stt0 p) [] (by omega) rfl (stt0_ok (check0 h).1)
      rw [List.nil_append, List.drop_zero] at this
      exact this
    | succ m ih =>
      intro k hk
      obtain ⟨x, hx⟩ := get_lt (show k < ins.length by omega)
      have hx8 := u8lt x
      have hsn : (inS ins).take (k + 1) = (inS ins).take k ++ [bitsS (x.toNat : Int) 3] := by
        obtain ⟨h1, rfl⟩ := List.getElem?_eq_some_iff.1 hx
        unfold inS
        rw [← List.map_take, ← List.map_take, ← List.take_append_getElem h1, List.map_append]; rfl
      rw [g3_L10_eq, decT (by rw [hlen]; omega), bsel_true, lget_encB hx, vI_mk, wr0 (by omega) (by omega), clX_of (c14_3 (x.toNat : Int)), vL_mk, chk_of (decT (by simp [LIM]; omega)), catS_snoc, wrs (by omega), ← hsn]
      exact ih (k + 1) (by omega)
  exact fst ins.length 0 (by omega)
/-! ### Scans -/
theorem law4 (s : Int) (l : List (UInt8 × UInt8)) (a b : UInt8) : SS.CC 4 [.agg [.int .u8 s, .sl false 2 (u2L l)], .int .u8 (a.toNat : Int), .int .u8 (b.toNat : Int)] [] = Ret (.bool true) := by
  have ha := u8lt a; have hb := u8lt b
  rw [g4_eq, c10k, vB_mk, Bool.not_true, bsel_false, clX_of (c11 s l)]
  obtain ⟨p, hp⟩ : ∃ p, makeS s l = p := ⟨_, rfl⟩
  have h : checkS p = 0 := by rw [← hp]; exact make_ok s l
  have hni : p.ni = 3 := by rw [← hp]; rfl
  have hno : p.no = 2 := by rw [← hp]; rfl
  have hnm : p.nm = 3 := by rw [← hp]; rfl
  have hw : 0 < wd p := by unfold wd; omega
  rw [hp]
  have hh := head0 (check0 h).1
  obtain ⟨st, hst⟩ : ∃ st : Stt, (⟨bitsS (a.toNat : Int) 2, bitsS (Int.fdiv (a.toNat : Int) (2 ^ min (2 : Int).toNat 64)) 3⟩ : Stt) = st := ⟨_, rfl⟩
  have hs : okS p st := by rw [← hst]; unfold okS; simp [hno, hnm]
  obtain ⟨x, hx⟩ : ∃ x, bitsS (b.toNat : Int) 3 = x := ⟨_, rfl⟩
  have hxi : (x.length : Int) = p.ni := by rw [← hx, bitsS_len, hni]; rfl
  have hok := next_ok (check0 h).1 hs hxi
  have h17 := c17 p h st x hxi hs hw
  have h18 := c18 p h st x hxi hs hw
  have h16 := c16 p h st x hxi hs hw
  have h13 := c13t (a := nextS p st x) (b := nextS p st x) (by unfold okS at hok; omega) (by unfold okS at hok; omega) rfl
  have h19 := c19 (stepsS p st x) (stepsS p st x) (by unfold stepsS scanS; have := run_steps p.list p.list.length 0 false (x ++ st.outs ++ st.mem) []; simp at this ⊢; omega)
  have h17a := fun (y : List Bool) (hy : (y.length : Int) ≠ p.ni) => c17e p st y (e := 4) (by decide) (c43s p h st y fun hc => hy hc.1)
  have h17b := fun (y : List Bool) => c17e p ⟨bitsS 1 3, st.mem⟩ y (e := 4) (by decide) (c43s p h _ y fun hc => by have := hc.2.1; simp [hno] at this)
  have h18b := fun (y : List Bool) => c18e p ⟨st.outs, []⟩ y (e := 4) (by decide) (c43s p h _ y fun hc => by have := hc.2.2; simp [hnm] at this)
  unfold prgP at h17 h18 h16 h17a h17b h18b ⊢
  unfold sttP at h17 h18 h16 h13 h17a h17b h18b
  rw [v29_mk, wr0 (k := (a.toNat : Int)) (by omega) (by omega), wr0 (k := (b.toNat : Int)) (by omega) (by omega)]
  rw [clX_of (c14_2 _), vL_mk, clX_of (c14_3 _), vL_mk, clX_of (c14_3 _), vL_mk]
  rw [show bitsS (a.toNat : Int) 2 = st.outs by rw [← hst], show bitsS (Int.fdiv (a.toNat : Int) (2 ^ min (2 : Int).toNat 64)) 3 = st.mem by rw [← hst], hx]
  rw [clX_of h17, w_32_3_mk, clX_of (c14_3 _), vL_mk, hx, clX_of h18, w_43_3_mk, clX_of (c14_3 _), vL_mk, hx, clX_of h16, w_32_43_mk]
  rw [show ((0 : Int) != 0) = false from rfl, bsel_false, bsel_false, clX_of h13, vB_mk, Bool.not_true, bsel_false, clX_of h19, vB_mk, decT rfl, Bool.not_true, bsel_false]
  have h18c : SS.CC 18 [.agg [.int .i64 p.ni, .int .i64 p.no, .int .i64 p.nm, .sl false 1 (bitL p.start), .sl false 2 (insL p.list)], .agg [.sl false 1 (bitL st.outs), .sl false 1 []], .sl false 1 (bitL (bitsS 0 3))] [] = Ret (.tuple [.sl false 1 [], .int .i64 4]) := h18b _
  have hrem : Int.tmod (b.toNat : Int) 2 = (b.toNat : Int) % 2 := tm (by omega)
  rw [hrem, wr0 (k := (b.toNat : Int) % 2) (by omega) (by omega), wr0 (k := 2 * ((b.toNat : Int) % 2)) (by omega) (by omega), wr0 (by omega) (by omega), clX_of (c14i _ _ (by omega) (by omega)), vL_mk, clX_of (h17a _ (by rw [bitsS_len, hni]; omega)), w_32_3_mk, clX_of (c14_3 _), vL_mk, clX_of (c14_3 _), vL_mk, clX_of (h17b _), w_32_3_mk, clX_of (c14_3 _), vL_mk, clX_of h18c, w_43_3_mk]
  rfl
end Go.Proofs.YtiejgieiokmmfaaDoor
