/-
  The law Keeps.
-/
import Derived.Test.YtiejgieiokmmfaaDoorC52k
namespace Go.Proofs.YtiejgieiokmmfaaDoor
set_option linter.unusedVariables false
set_option linter.unusedSimpArgs false
set_option linter.unnecessarySimpa false
set_option linter.unusedSectionVars false
open Go.RowKit
theorem next_comp {p : Prg} (h8 : p.ok8) {s : Stt} {x : List Bool} (hs : okS p s) (hx : (x.length : Int) = p.ni) : nextS (compP p) s x = nextS p s x := by
  have hh := head0 h8.head
  have hw := h8.w8
  have hl : (x ++ s.outs ++ s.mem).length = 8 := by unfold okS at hs; unfold wd at hw; simp; omega
  have := comp_run h8.okL (x ++ s.outs ++ s.mem) hl
  unfold nextS sttS scanS
  show (⟨((runS (compS 8 p.list) (compS 8 p.list).length 0 false (x ++ s.outs ++ s.mem) []).2.take (p.ni + p.no).toNat).drop p.ni.toNat, (runS (compS 8 p.list) (compS 8 p.list).length 0 false (x ++ s.outs ++ s.mem) []).2.drop (p.ni + p.no).toNat⟩ : Stt) = _
  rw [this]
theorem runs_comp {p : Prg} (h8 : p.ok8) : ∀ (ins : List (List Bool)) (s : Stt), okS p s → (∀ i, i ∈ ins → (i.length : Int) = p.ni) → runsS (compP p) s ins = runsS p s ins
  | [], _, _, _ => rfl
  | i :: r, s, hs, hi => by
    have hx := hi i (by simp)
    rw [runsS, runsS, next_comp h8 hs hx, runs_comp h8 r _ (next_ok h8.head hs hx) fun j hj => hi j (by simp [hj])]
@[simp] theorem setAll_len : ∀ (ns : List Int) (b : List Bool), (setAll b ns).length = b.length
  | [], _ => rfl
  | n :: ns, b => by show (setAll (b.set n.toNat true) ns).length = _; rw [setAll_len ns]; simp
theorem setAll_mono : ∀ (ns : List Int) (b : List Bool) (k : Nat), b.getD k false = true → (setAll b ns).getD k false = true
  | [], _, _, h => h
  | n :: ns, b, k, h => setAll_mono ns (b.set n.toNat true) k (set_mono h)
theorem setAll_mem : ∀ (ns : List Int) (b : List Bool) (n : Int), n ∈ ns → n.toNat < b.length → (setAll b ns).getD n.toNat false = true
  | m :: ns, b, n, h, hl => by
    show (setAll (b.set m.toNat true) ns).getD _ _ = true
    rcases List.mem_cons.1 h with rfl | h
    · exact setAll_mono ns _ _ (by rw [getD_setB, if_pos ⟨rfl, hl⟩])
    · exact setAll_mem ns _ n h (by simpa using hl)
def W0 (l : List Ins) : List Bool := setAll (List.replicate 8 false) (writesS l)
theorem writes_bound {p : Prg} (h8 : p.ok8) {n : Int} (h : n ∈ writesS p.list) : p.ni ≤ n ∧ 0 ≤ n ∧ n < 8 := by
  have := ((use_inc _).2 n).1 h
  obtain ⟨k, x, hx, hr, h7, h10, rfl⟩ := (writesF_mem _ _ _ _).1 this
  have h1 := (check0 h8.check).2.2 k x hx h7 h10
  have h2 := (h8.okL.2 k x hx).2.2.1 h10
  omega
theorem keep_bit {p : Prg} (h8 : p.ok8) (hni : p.ni = 3) (hno : p.no = 2) (hnm : p.nm = 3) {s : Stt} {x : List Bool} (hs : okS p s) (hx : (x.length : Int) = p.ni) {b : Nat} (hb : b < 5) (hW : (W0 p.list).getD (3 + b) false = false) :
    (s.outs ++ s.mem).getD b false = ((nextS p s x).outs ++ (nextS p s x).mem).getD b false := by
  have hok := h8.okL
  unfold okS at hs
  have hl : (x ++ s.outs ++ s.mem).length = 8 := by simp; omega
  have hk := run_keep hok (3 + b) (fun i y hy hr h7 h10 e => by
    have hm : y.2 ∈ writesS p.list := ((use_inc _).2 _).2 ((writesF_mem _ _ _ _).2 ⟨i, y, hy, by rw [Nat.zero_add]; exact hr, h7, h10, rfl⟩)
    have hb := writes_bound h8 hm
    have := setAll_mem (writesS p.list) (List.replicate 8 false) y.2 hm (by simp; omega)
    rw [e] at this
    unfold W0 at hW
    rw [hW] at this; cases this) p.list.length 0 false (x ++ s.outs ++ s.mem) [] (RS_zero _)
  have hl2 : (scanS p (x ++ s.outs ++ s.mem)).2.length = 8 := by unfold scanS; rw [run_len]; exact hl
  have e1 : (nextS p s x).outs ++ (nextS p s x).mem = (scanS p (x ++ s.outs ++ s.mem)).2.drop 3 := by
    unfold nextS sttS
    simp only [hni, hno]
    show ((scanS p (x ++ s.outs ++ s.mem)).2.take 5).drop 3 ++ (scanS p (x ++ s.outs ++ s.mem)).2.drop 5 = _
    rw [List.drop_take, show 5 = 3 + 2 by rfl, ← List.drop_drop, show 3 + 2 - 3 = 2 by rfl, List.take_append_drop]
  rw [e1, List.getD_eq_getElem?_getD, List.getD_eq_getElem?_getD, List.getElem?_drop]
  have e2 : (s.outs ++ s.mem)[b]? = (x ++ s.outs ++ s.mem)[3 + b]? := by
    rw [List.append_assoc, List.getElem?_append_right (l₁ := x) (by omega)]
    congr 1; omega
  rw [e2]
  rw [List.getD_eq_getElem?_getD, List.getD_eq_getElem?_getD] at hk
  exact hk.symm
section
variable {p q : Prg} (h8 : p.ok8) (hq : q = compP p) (hni : p.ni = 3) (hno : p.no = 2) (hnm : p.nm = 3)
include h8 hq hni hno hnm
theorem l8w (rs : List PV) (ins : List PV) (s : Stt) : ∀ (m j : Nat), j + m = (writesS p.list).length →
    g8_L20 rs rs (intL (writesS p.list)) p.ni p.no p.nm (bitL p.start) (insL p.list) q.ni q.no q.nm (bitL q.start) (insL q.list) (bitL s.outs) (bitL s.mem) (j : Int) (bitL (setAll (List.replicate 8 false) ((writesS p.list).take j))) ins =
    g8_L27 rs rs p.ni p.no p.nm (bitL p.start) (insL p.list) q.ni q.no q.nm (bitL q.start) (insL q.list) (bitL s.outs) (bitL s.mem) ins (bitL (W0 p.list)) 0 := by
  have hlen : (writesS p.list).length ≤ 8 := by rw [← writes_eq h8.okL]; exact bitsF_len _ 8 0
  intro m
  induction m with
  | zero =>
    intro j hj
    rw [g8_L20_eq, bitL_flC, Bool.true_and, chk_tt, decF (by simp; omega), bsel_false, chk_tt, List.take_of_length_le (by omega)]; rfl
  | succ m ih =>
    intro j hj
    obtain ⟨y, hy⟩ := get_lt (show j < (writesS p.list).length by omega)
    have hb := writes_bound h8 (List.mem_of_getElem? hy)
    have hs : setAll (List.replicate 8 false) ((writesS p.list).take (j + 1)) = (setAll (List.replicate 8 false) ((writesS p.list).take j)).set y.toNat true := by
      obtain ⟨h1, rfl⟩ := List.getElem?_eq_some_iff.1 hy
      rw [← List.take_append_getElem h1]
      unfold setAll
      rw [List.foldl_append]; rfl
    have nxt := ih (j + 1) (by omega)
    rw [hs] at nxt
    rw [g8_L20_eq, bitL_flC, Bool.true_and, chk_tt, decT (by simp; omega), bsel_true, chk_tt, lget_int hy, vI_mk, decF (show ¬ y < 3 by omega), bsel_false, decF (show ¬ 8 ≤ y by omega), bsel_false, chk_tt, decT hb.2.1, decT (show y < (8 : Int) from hb.2.2), Bool.and_self, chk_tt, show 0 + y.toNat * 1 = y.toNat by omega, bitL_len, setAll_len, decT (by simp; omega), chk_tt, bitL_set, bitL_flC, Bool.true_and, chk_tt, wrs (by omega)]
    exact nxt
theorem l8i (rs ins : List PV) (s : Stt) (st : List Int) (hst : st.Pairwise (· < ·)) (hsl : st.length ≤ 100000) (k : Int) : ∀ (m j : Nat), st.length ≤ j + m → 1 ≤ j →
    g8_L33 rs rs (intL st) p.ni p.no p.nm (bitL p.start) (insL p.list) q.ni q.no q.nm (bitL q.start) (insL q.list) (bitL s.outs) (bitL s.mem) (j : Int) ins (bitL (W0 p.list)) k =
    g8_L38 rs rs p.ni p.no p.nm (bitL p.start) (insL p.list) q.ni q.no q.nm (bitL q.start) (insL q.list) (bitL s.outs) (bitL s.mem) 0 ins (bitL (W0 p.list)) k := by
  intro m
  induction m with
  | zero =>
    intro j hj h1
    rw [g8_L33_eq, bitL_flC, Bool.true_and, chk_tt, decF (by simp; omega), bsel_false, chk_tt]
  | succ m ih =>
    intro j hj h1
    by_cases hlt : j < st.length
    · obtain ⟨y, hy⟩ := get_lt hlt
      obtain ⟨z, hz⟩ := get_lt (show j - 1 < st.length by omega)
      have hzy : z < y := by
        obtain ⟨h1', rfl⟩ := List.getElem?_eq_some_iff.1 hy
        obtain ⟨h2', rfl⟩ := List.getElem?_eq_some_iff.1 hz
        exact List.pairwise_iff_getElem.1 hst (j - 1) j h2' h1' (by omega)
      have w1 : IntKind.i64.wrap ((j : Int) - 1) = ((j - 1 : Nat) : Int) := by rw [wr0 (by omega) (by omega)]; omega
      rw [g8_L33_eq, bitL_flC, Bool.true_and, chk_tt, decT (by simp; omega), bsel_true, chk_tt, lget_int hy, vI_mk, w1, lget_int hz, vI_mk, decF (by omega), bsel_false, chk_tt, wrs (by omega)]
      exact ih (j + 1) (by omega) (by omega)
    · rw [g8_L33_eq, bitL_flC, Bool.true_and, chk_tt, decF (by simp; omega), bsel_false, chk_tt]
theorem l8b (rl : List Stt) (ins : List PV) {s t : Stt} (hs : okS p s) (ht : okS p t) {k : Nat} (hk : rl[k]? = some t) (hkeep : ∀ b, b < 5 → (W0 p.list).getD (3 + b) false = false → (s.outs ++ s.mem).getD b false = (t.outs ++ t.mem).getD b false) (hkl : k < 1000) : ∀ (m b : Nat), b + m = 5 →
    g8_L38 (sttL rl) (sttL rl) p.ni p.no p.nm (bitL p.start) (insL p.list) q.ni q.no q.nm (bitL q.start) (insL q.list) (bitL s.outs) (bitL s.mem) (b : Int) ins (bitL (W0 p.list)) (k : Int) =
    g8_L27 (sttL rl) (sttL rl) p.ni p.no p.nm (bitL p.start) (insL p.list) q.ni q.no q.nm (bitL q.start) (insL q.list) (bitL t.outs) (bitL t.mem) ins (bitL (W0 p.list)) ((k + 1 : Nat) : Int) := by
  unfold okS at hs ht
  have hWl : (W0 p.list).length = 8 := by unfold W0; simp
  intro m
  induction m with
  | zero =>
    intro b hb
    rw [g8_L38_eq, bitL_flC, Bool.true_and, chk_tt, decF (by omega), bsel_false, chk_tt, lget_stt hk, sttP, v32_mk, chk_tt, wrs (by omega)]
  | succ m ih =>
    intro b hb
    have nxt := ih (b + 1) (by omega)
    have w1 : IntKind.i64.wrap (3 + (b : Int)) = ((3 + b : Nat) : Int) := by rw [wr0 (by omega) (by omega)]; omega
    have b1 : (s.outs ++ s.mem)[b]? = some ((s.outs ++ s.mem).getD b false) := bAt (by simp; omega)
    have b2 : (t.outs ++ t.mem)[b]? = some ((t.outs ++ t.mem).getD b false) := bAt (by simp; omega)
    rw [g8_L38_eq, bitL_flC, Bool.true_and, chk_tt, decT (by omega), bsel_true, chk_tt, bitL_len, bitL_len, decT (by simp [LIM]; omega), chk_tt, decT (by simp [LIM]; omega), chk_tt, lget_stt hk, sttP, v32_mk, bitL_len, decT (by simp [LIM]; omega), chk_tt, lget_stt hk, sttP, v32_mk, bitL_len, decT (by simp [LIM]; omega), chk_tt, w1, Int.toNat_natCast, decT (by omega), decT (by omega), Bool.and_self, chk_tt, show 0 + (3 + b) * 1 = 3 + b by omega, nget_bit (bAt (by omega)), vB_mk, bitL_app, bitL_app, wrs (by omega)]
    cases hW : (W0 p.list).getD (3 + b) false with
    | true => rw [Bool.not_true, bsel_false, chk_tt]; exact nxt
    | false =>
      rw [Bool.not_false, bsel_true, lget_bit b1, vB_mk, lget_bit b2, vB_mk, hkeep b (by omega) hW, show (!((t.outs ++ t.mem).getD b false == (t.outs ++ t.mem).getD b false)) = false by simp, bsel_false, chk_tt]
      exact nxt
theorem l8s (ins : List (List Bool)) (hil : ins.length ≤ 10) (hi : ∀ i, i ∈ ins → (i.length : Int) = p.ni) : ∀ (m k : Nat) (s : Stt) (done : List Stt), k + m = ins.length → done.length = k → okS p s →
    g8_L27 (sttL (done ++ runsS p s (ins.drop k))) (sttL (done ++ runsS p s (ins.drop k))) p.ni p.no p.nm (bitL p.start) (insL p.list) q.ni q.no q.nm (bitL q.start) (insL q.list) (bitL s.outs) (bitL s.mem) (catS ins) (bitL (W0 p.list)) (k : Int) = Ret (.bool true) := by
  intro m
  induction m with
  | zero =>
    intro k s done hk hd hs
    rw [g8_L27_eq, bitL_flC, Bool.true_and, chk_tt, decF (by simp [runs_len]; omega), bsel_false]
  | succ m ih =>
    intro k s done hk hd hs
    obtain ⟨x, hx⟩ := get_lt (show k < ins.length by omega)
    have hxi := hi x (List.mem_of_getElem? hx)
    have hok := next_ok h8.head hs hxi
    have hw : 0 < wd p := by rw [h8.w8]; omega
    have h18 := c18 p h8.check s x hxi hs hw
    have h13 := c13t (a := nextS p s x) (b := nextS p s x) (by unfold okS at hok; omega) (by unfold okS at hok; omega) rfl
    have hgx : (done ++ runsS p s (ins.drop k))[k]? = some (nextS p s x) := by
      rw [List.getElem?_append_right (by omega), drop_get hx, hd, Nat.sub_self]; rfl
    obtain ⟨t, e1, _, e3⟩ := run_inc h8.okL p.list.length 0 false (x ++ s.outs ++ s.mem) []
    have hst : (stepsS p s x).Pairwise (· < ·) := by unfold stepsS scanS; rw [e1, List.nil_append]; exact e3
    have hsl : (stepsS p s x).length ≤ 100000 := by unfold stepsS scanS; have := run_steps p.list p.list.length 0 false (x ++ s.outs ++ s.mem) []; have := h8.okL.1; simp at *; omega
    have hok' := hok
    unfold okS at hok'
    unfold prgP at h18
    unfold sttP at h18 h13
    rw [g8_L27_eq, bitL_flC, Bool.true_and, chk_tt, decT (by simp [runs_len]; omega), bsel_true, chk_tt, lget_cat hx, vL_mk, clX_of h18, w_43_3_mk, neF rfl, bsel_false, lget_stt hgx, sttP, v32_mk, lget_stt hgx, sttP, v32_mk, clX_of h13, vB_mk, Bool.not_true, bsel_false, lget_stt hgx, sttP, v32_mk, bitL_len, neF (show ((nextS p s x).outs.length : Int) = 2 by omega), bsel_false, lget_stt hgx, sttP, v32_mk, bitL_len, neF (show ((nextS p s x).mem.length : Int) = 3 by omega), bsel_false, chk_tt]
    refine (show _ = _ from l8i h8 hq hni hno hnm (sttL (done ++ runsS p s (ins.drop k))) (catS ins) s (stepsS p s x) hst hsl (k : Int) (stepsS p s x).length 1 (by omega) (by omega)).trans ?_
    refine (show _ = _ from l8b h8 hq hni hno hnm (done ++ runsS p s (ins.drop k)) (catS ins) hs hok hgx (fun b hb hW => keep_bit h8 hni hno hnm hs hxi hb hW) (by omega) 5 0 (by omega)).trans ?_
    have := ih (k + 1) (nextS p s x) (done ++ [nextS p s x]) (by omega) (by simp [hd]) hok
    rw [drop_get hx, runsS]
    rwa [List.append_assoc] at this
end
theorem unr_comp {p : Prg} (h8 : p.ok8) : unrS (compS 8 p.list) = [] := by
  unfold unrS
  have key : ∀ (b : List Bool) (i : Nat), (∀ k, k < b.length → b.getD k false = true) → selS false i b = [] := by
    intro b
    induction b with
    | nil => intro i _; rfl
    | cons x b ih =>
      intro i h
      have h0 : x = true := h 0 (by simp)
      rw [selS, if_neg (by simp [h0])]
      exact ih (i + 1) fun k hk => by have := h (k + 1) (by simpa using hk); simpa using this
  refine key _ 0 fun k hk => ?_
  have hk2 : k < (compS 8 p.list).length := by simpa using hk
  have := comp_all h8.okL hk2
  unfold RS at this
  rw [List.getD_eq_getElem?_getD, List.getElem?_take_of_lt hk2, ← List.getD_eq_getElem?_getD]
  exact this
theorem law8 (s : Int) (l : List (UInt8 × UInt8)) (ins : List UInt8) : SS.CC 8 [.agg [.int .u8 s, .sl false 2 (u2L l)], .sl false 1 (encB ins)] [] = Ret (.bool true) := by
  have hlen : (encB ins).length = ins.length := by simp [encB]
  rw [g8_eq, c10k, vB_mk, Bool.not_true, bsel_false]
  by_cases h10 : 10 < ins.length
  · rw [decT (by rw [hlen]; omega), bsel_true, c10k, vB_mk]
  rw [decF (by rw [hlen]; omega), bsel_false, clX_of (c11 s l)]
  obtain ⟨p, hp⟩ : ∃ p, makeS s l = p := ⟨_, rfl⟩
  have h8 : p.ok8 := by rw [← hp]; exact make8 s l
  have hni : p.ni = 3 := by rw [← hp]; rfl
  have hno : p.no = 2 := by rw [← hp]; rfl
  have hnm : p.nm = 3 := by rw [← hp]; rfl
  rw [hp]
  have hw : 0 < wd p := by rw [h8.w8]; omega
  obtain ⟨q, hq⟩ : ∃ q, compP p = q := ⟨_, rfl⟩
  have h8q : q.ok8 := by rw [← hq]; exact comp8 h8
  have hwq : 0 < wd q := by rw [h8q.w8]; omega
  have h20 := c20 h8
  rw [hq] at h20
  have hin : ∀ i, i ∈ inS ins → (i.length : Int) = p.ni := fun i hi => by
    obtain ⟨x, _, rfl⟩ := List.mem_map.1 hi
    rw [bitsS_len, hni]; rfl
  have hinq : ∀ i, i ∈ inS ins → (i.length : Int) = q.ni := fun i hi => by rw [← hq]; exact hin i hi
  have hil : (inS ins).length = ins.length := by simp [inS]
  have h15 := c15 p h8.check hw (inS ins) (by omega) hin
  have h15q := c15 q h8q.check hwq (inS ins) (by omega) hinq
  have h0 : stt0 q = stt0 p := by rw [← hq]; rfl
  have hruns : runsS q (stt0 q) (inS ins) = runsS p (stt0 p) (inS ins) := by
    rw [h0, ← hq]; exact runs_comp h8 _ _ (stt0_ok h8.head) hin
  rw [hruns] at h15q
  have h28 := c28 h8q
  have hun : unrS q.list = [] := by rw [← hq]; exact unr_comp h8
  rw [hun] at h28
  have h30 := c30 h8
  have h12 := c12 p h8.check
  unfold prgP at h20 h15 h15q h28 h30 h12 ⊢
  unfold sttP at h12
  rw [v29_mk, clX_of h20, w_29_3_mk]
  have key : ∀ (m k : Nat), k + m = ins.length →
      g8_L8 (encB ins) 0 p.ni p.no p.nm (bitL p.start) (insL p.list) q.ni q.no q.nm (bitL q.start) (insL q.list) (catS ((inS ins).take k)) (k : Int) = Ret (.bool true) := by
    intro m
    induction m with
    | zero =>
      intro k hk
      rw [List.take_of_length_le (by omega)]
      rw [g8_L8_eq, decF (by rw [hlen]; omega), bsel_false, clX_of h15, w_40_3_mk, clX_of h15q, w_40_3_mk, clX_of h28, w_43_3_mk, clX_of h30, w_43_43_3_mk, clX_of h12, w_32_3_mk, neF rfl, bsel_false, bsel_false, bsel_false, bsel_false, bsel_false, bsel_false, neF rfl, bsel_false, neF (by simp [runs_len, hlen, hil]), bsel_false, neF (by simp), bsel_false]
      have e1 := l8w h8 hq.symm hni hno hnm (sttL (runsS p (stt0 p) (inS ins))) (catS (inS ins)) (stt0 p) (writesS p.list).length 0 (by omega)
      have e2 := l8s h8 hq.symm hni hno hnm (inS ins) (by omega) hin ins.length 0 (stt0 p) [] (by omega) rfl (stt0_ok h8.head)
      rw [List.nil_append, List.drop_zero] at e2
      rw [List.take_zero] at e1
      exact (show _ = _ from e1).trans e2
    | succ m ih =>
      intro k hk
      obtain ⟨x, hx⟩ := get_lt (show k < ins.length by omega)
      have hx8 := u8lt x
      have hsn : (inS ins).take (k + 1) = (inS ins).take k ++ [bitsS (x.toNat : Int) 3] := by
        obtain ⟨h1, rfl⟩ := List.getElem?_eq_some_iff.1 hx
        unfold inS
        rw [← List.map_take, ← List.map_take, ← List.take_append_getElem h1, List.map_append]; rfl
      rw [g8_L8_eq, decT (by rw [hlen]; omega), bsel_true, lget_encB hx, vI_mk, wr0 (by omega) (by omega), clX_of (c14_3 (x.toNat : Int)), vL_mk, chk_of (decT (by simp [LIM]; omega)), catS_snoc, wrs (by omega), ← hsn]
      exact ih (k + 1) (by omega)
  exact key ins.length 0 (by omega)
end Go.Proofs.YtiejgieiokmmfaaDoor
