/-
  Contracts: Text and the model's text, Equal; the law Texts.
-/
import Derived.Test.YtiejgieiokmmfaaGreatDoorZP52t
import Derived.Test.YtiejgieiokmmfaaGreatDoorZT52h
namespace Go.Proofs.YtiejgieiokmmfaaGreatDoor
set_option linter.unusedVariables false
set_option linter.unusedSimpArgs false
set_option linter.unnecessarySimpa false
set_option linter.unusedSectionVars false
open Go.RowKit
theorem strOf_bytes : ∀ (l : List UInt8), strOf (l.map fun x => .int .u8 (x.toNat : Int)) = bs l := by
  have key : ∀ (l : List UInt8) (a : ByteArray), ((l.map fun x => PV.int .u8 (x.toNat : Int)).map byteInt).foldl (fun r n => r.push (UInt8.ofNat n.toNat)) a = ⟨a.data ++ l.toArray⟩ := by
    intro l
    induction l with
    | nil => intro a; simp
    | cons b l ih =>
      intro a
      rw [List.map_cons, List.map_cons, List.foldl_cons, ih]
      apply ByteArray.ext
      show (a.push (UInt8.ofNat ((b.toNat : Int)).toNat)).data ++ l.toArray = _
      rw [Int.toNat_natCast, UInt8.ofNat_toNat]
      apply Array.ext'
      simp
  intro l
  unfold strOf
  rw [key]
  apply ByteArray.ext
  simp
/-! ### numerals -/
theorem cItoa {n : Int} (h0 : 0 ≤ n) (h1 : n < 1000000000) : SS.CC 25 [.int .i64 n] [] = Ret (.str (bs (decL n.toNat))) := by
  refine CC_c0 ?_
  show (match decide (0 ≤ n) && decide (n < ITOAB) with | true => some (PV.str ⟨(Lib.decDigits n.toNat).toArray⟩, ([] : Objs)) | false => none) = _
  rw [decT h0, decT (by unfold ITOAB; omega)]; rfl
theorem cNum {n : Int} (h0 : 0 ≤ n) (h1 : n < 1000000) : SS.CC 34 [.int .i64 n] [] = Ret (.str (bs (decL n.toNat))) := by
  obtain ⟨m, rfl⟩ : ∃ m : Nat, n = m := ⟨n.toNat, by omega⟩
  rw [Int.toNat_natCast]
  clear h0
  induction m using Nat.strongRecOn with
  | ind m ih =>
    have e1 : IntKind.u8.wrap (IntKind.i64.wrap (48 + Int.tmod (m : Int) 10)) = (((UInt8.ofNat (48 + m % 10)).toNat : Nat) : Int) := by
      have : Int.tmod (m : Int) 10 = ((m % 10 : Nat) : Int) := rfl
      rw [this, wr0 (by omega) (by omega), IntKind.wrap_u8, dig_nat (by omega)]; omega
    have e2 : strOf [.int .u8 (((UInt8.ofNat (48 + m % 10)).toNat : Nat) : Int)] = bs [UInt8.ofNat (48 + m % 10)] := strOf_bytes [UInt8.ofNat (48 + m % 10)]
    rw [g34_eq, e1, e2, chk_of (by simp [bytesP, isByte])]
    by_cases h : m < 10
    · rw [decF (by omega), bsel_false, dec_one h, Nat.mod_eq_of_lt h]
    · have e3 : IntKind.i64.wrap (Int.tdiv (m : Int) 10) = ((m / 10 : Nat) : Int) := by
        have : Int.tdiv (m : Int) 10 = ((m / 10 : Nat) : Int) := rfl
        rw [this, wr0 (by omega) (by omega)]
      have hl := dec_le (n := m / 10) (by omega)
      rw [decT (by omega), bsel_true, e3, clX_of (ih (m / 10) (by omega) (by omega)), vS_mk, chk_of (by simp [LIM]; omega), bs_app, dec_step h]
/-! ### operands -/
theorem cBit {p : Prg} (hp : checkS p = 0) {x : Ins} (hx : x ∈ p.list) (h11 : ¬ 11 ≤ x.1) : SS.CC 27 [prgP p, .int .i64 x.2] [] = Ret (.str (bs (opdS p x))) := by
  obtain ⟨hh, hok, _⟩ := check0 hp
  have hd := head0 hh
  obtain ⟨i, hi, rfl⟩ := List.mem_iff_getElem.1 hx
  have ho := hok.2 i p.list[i] (List.getElem?_eq_getElem hi)
  unfold okI wd at ho
  generalize p.list[i] = x at *
  have h := ho.2.2.1 (by omega)
  unfold prgP opdS
  rw [g27_eq, if_neg h11]
  by_cases c1 : x.2 < p.ni
  · have hl := dec_le (n := x.2.toNat) (by omega)
    rw [decT c1, bsel_true, if_pos c1, clX_of (cItoa (by omega) (by omega)), vS_mk, chk_of (by simp [LIM, ByteArray.size]; omega)]
    rw [show (⟨#[73]⟩ : ByteArray) = bs [73] from rfl, bs_app]; rfl
  · rw [decF c1, bsel_false, if_neg c1, wr0 (k := p.ni + p.no) (by omega) (by omega), wr0 (k := x.2 - p.ni) (by omega) (by omega)]
    by_cases c2 : x.2 < p.ni + p.no
    · have hl := dec_le (n := (x.2 - p.ni).toNat) (by omega)
      rw [decT c2, bsel_true, if_pos c2, clX_of (cItoa (by omega) (by omega)), vS_mk, chk_of (by simp [LIM, ByteArray.size]; omega)]
      rw [show (⟨#[81]⟩ : ByteArray) = bs [81] from rfl, bs_app]; rfl
    · have hl := dec_le (n := (x.2 - p.ni - p.no).toNat) (by omega)
      rw [decF c2, bsel_false, if_neg c2, wr0 (k := x.2 - p.ni - p.no) (by omega) (by omega), clX_of (cItoa (by omega) (by omega)), vS_mk, chk_of (by simp [LIM, ByteArray.size]; omega)]
      rw [show (⟨#[77]⟩ : ByteArray) = bs [77] from rfl, bs_app]; rfl
theorem cOpd {p : Prg} (hp : checkS p = 0) {x : Ins} (hx : x ∈ p.list) : SS.CC 36 [prgP p, insP x] [] = Ret (.str (bs (opdS p x))) := by
  obtain ⟨hh, hok, _⟩ := check0 hp
  have hd := head0 hh
  obtain ⟨i, hi, rfl⟩ := List.mem_iff_getElem.1 hx
  have ho := hok.2 i p.list[i] (List.getElem?_eq_getElem hi)
  have hl := hok.1
  unfold okI wd at ho
  generalize p.list[i] = x at *
  unfold prgP insP opdS
  rw [g36_eq, clX_of (c23 _), vB_mk]
  by_cases h11 : 11 ≤ x.1
  · have h := ho.2.2.2 h11
    rw [decT h11, decT (by omega), Bool.and_self, bsel_true, if_pos h11, clX_of (cNum (by omega) (by omega)), vS_mk]
  have h := ho.2.2.1 (by omega)
  rw [decF h11, Bool.false_and, bsel_false, if_neg h11]
  by_cases c1 : x.2 < p.ni
  · have hl := dec_le (n := x.2.toNat) (by omega)
    rw [decT c1, bsel_true, if_pos c1, clX_of (cNum (by omega) (by omega)), vS_mk, chk_of (by simp [LIM, ByteArray.size]; omega)]
    rw [show (⟨#[73]⟩ : ByteArray) = bs [73] from rfl, bs_app]; rfl
  · rw [decF c1, bsel_false, if_neg c1, wr0 (k := p.ni + p.no) (by omega) (by omega), wr0 (k := x.2 - p.ni) (by omega) (by omega)]
    by_cases c2 : x.2 < p.ni + p.no
    · have hl := dec_le (n := (x.2 - p.ni).toNat) (by omega)
      rw [decT c2, bsel_true, if_pos c2, clX_of (cNum (by omega) (by omega)), vS_mk, chk_of (by simp [LIM, ByteArray.size]; omega)]
      rw [show (⟨#[81]⟩ : ByteArray) = bs [81] from rfl, bs_app]; rfl
    · have hl := dec_le (n := (x.2 - p.ni - p.no).toNat) (by omega)
      rw [decF c2, bsel_false, if_neg c2, wr0 (k := x.2 - p.ni - p.no) (by omega) (by omega), clX_of (cNum (by omega) (by omega)), vS_mk, chk_of (by simp [LIM, ByteArray.size]; omega)]
      rw [show (⟨#[77]⟩ : ByteArray) = bs [77] from rfl, bs_app]; rfl
/-! ### lines -/
theorem strsOf_L (ws : List (List UInt8)) : strsOf (strsL ws) = some (ws.map fun w => bs w) := by
  induction ws with
  | nil => rfl
  | cons w ws ih => show (strsOf (strsL ws)).map (bs w :: ·) = _; rw [ih]; rfl
theorem joinB_L (ws : List (List UInt8)) : joinB (ws.map fun w => bs w) ⟨#[32]⟩ = joinT ws := by
  unfold joinB joinT
  rw [List.map_map]
  congr 1
  exact (List.map_congr_left fun w _ => by simp).trans (List.map_id _)
theorem cJoin (ws : List (List UInt8)) (h : (joinT ws).length ≤ 1000000) (h2 : ws.length ≤ 1000000) : SS.CC 46 [.sl false 1 (strsL ws), .str ⟨#[32]⟩] [] = Ret (.str (bs (joinT ws))) := by
  refine CC_c0 ?_
  show (match strsOf (strsL ws) with
    | some xs => (match Nat.ble (joinB xs ⟨#[32]⟩).length 140737488355328 && Nat.ble xs.length 140737488355328 with
      | true => some (PV.str ⟨(joinB xs ⟨#[32]⟩).toArray⟩, ([] : Objs))
      | false => none)
    | none => none) = _
  rw [strsOf_L]
  simp only [joinB_L]
  rw [Nat.ble_eq_true_of_le (by omega), Nat.ble_eq_true_of_le (by simp; omega)]
  rfl
def wrO (y : List UInt8) : Objs := [some [.bld 59 0, .slT y]]
theorem cCC (y : List UInt8) : SS.CC 71 [.ptr 0 0] (wrO y) = some (.tuple [], wrO y) := CC_c0 rfl
theorem cStr (y : List UInt8) : SS.CC 28 [.ptr 0 0] (wrO y) = some (.str (bs y), [some [.bld 59 0, .sl false 1 (bytesPV y)]]) := CC_c0 rfl
theorem cLine (ws : List (List UInt8)) (y : List UInt8) (h : (joinT ws).length ≤ 1000000) (h2 : ws.length ≤ 1000000) (hy : y.length ≤ 100000000) : SS.CC 24 [.ptr 0 0, .sl false 1 (strsL ws)] (wrO y) = some (.tuple [], wrO (y ++ lineT ws)) := by
  have k1 : SS.CC 45 [.ptr 0 0, .str (bs (joinT ws))] (wrO y) = some (.tuple [.int .i64 ((bs (joinT ws)).size : Int), .raw .nilIface], wrO (y ++ joinT ws)) := by
    have c := cCC y
    unfold wrO at c ⊢
    rw [g45_eq, clH_of c, h71_0_mk, chk_of (by simp [LIM]; omega)]
  have k2 : SS.CC 47 [.ptr 0 0, .int .u8 10] (wrO (y ++ joinT ws)) = some (.raw .nilIface, wrO (y ++ joinT ws ++ [10])) := by
    have c := cCC (y ++ joinT ws)
    unfold wrO at c ⊢
    rw [g47_eq, clH_of c, h71_0_mk, chk_of (by simp [LIM]; omega)]
    rfl
  unfold wrO at k1 k2 ⊢
  rw [g24_eq, clX_of (cJoin ws h h2), vS_mk, clH_of k1, h45_0_mk, clH_of k2, h47_0_mk]
  unfold lineT
  rw [List.append_assoc]
/-! ### Text -/
theorem op_txt {k : Int} (h1 : 1 ≤ k) (h2 : k ≤ 13) : ∃ (p q z : PV), (∀ K : PV → R, lgetX opsP (IntKind.i64.wrap (k - 1)) K = K (.agg [.int .i64 k, .str (bs (nmOf k)), p, q, z])) ∧ ([.int .i64 k, .str (bs (nmOf k)), p, q, z] : List PV).all PV.one = true ∧
    (([.int .i64 k, .str (bs (nmOf k)), PV.un p, PV.un q, PV.un z] : List PV).all flC && true) = true ∧ ∀ K : Bool → R, fnX (PV.un (PV.un (PV.un z))) K = K (decide (k ≤ 10)) := by
  have : k = 1 ∨ k = 2 ∨ k = 3 ∨ k = 4 ∨ k = 5 ∨ k = 6 ∨ k = 7 ∨ k = 8 ∨ k = 9 ∨ k = 10 ∨ k = 11 ∨ k = 12 ∨ k = 13 := by omega
  rcases this with rfl | rfl | rfl | rfl | rfl | rfl | rfl | rfl | rfl | rfl | rfl | rfl | rfl <;> exact ⟨_, _, _, fun K => rfl, rfl, rfl, fun K => rfl⟩
theorem take_snoc {α : Type} {l : List α} {k : Nat} {x : α} (h : l[k]? = some x) : l.take (k + 1) = l.take k ++ [x] := by
  obtain ⟨h1, rfl⟩ := List.getElem?_eq_some_iff.1 h
  exact (List.take_append_getElem h1).symm
theorem insTs_app (p : Prg) (a b : List Ins) : insTs p (a ++ b) = insTs p a ++ insTs p b := by simp [insTs]
theorem l19t {p : Prg} (hp : checkS p = 0) (y : List UInt8) (hy : y.length ≤ 10000000) : ∀ m k : Nat, k + m = p.list.length → g9_L19 p.ni p.no p.nm (bitL p.start) (insL p.list) opsP (y ++ insTs p (p.list.take k)) (k : Int) = Ret (.tuple [.str (bs (y ++ insTs p p.list)), .int .i64 0]) := by
  obtain ⟨hh, hok, _⟩ := check0 hp
  intro m
  induction m with
  | zero =>
    intro k h
    have c := cStr (y ++ insTs p p.list)
    unfold wrO at c
    rw [g9_L19_eq, insL_len, decF (by omega), bsel_false, List.take_of_length_le (by omega), clH_of c, h28_0_mk]
  | succ m ih =>
    intro k h
    obtain ⟨x, hx⟩ := get_lt (show k < p.list.length by omega)
    have hm := List.mem_of_getElem? hx
    have ho := hok.2 k x hx
    have hb := insTs_le hp (p.list.take k) fun z hz => List.mem_of_mem_take hz
    have h14 := ins_le hp hm
    have hol := opd_le hp hm
    obtain ⟨a, b, z, e1, e2, e3, e4⟩ := op_txt ho.1 ho.2.1
    have hd := head0 hh
    have hnm := (nm_of ho.1 ho.2.1).2.2.2
    have hl2 := hok.1
    have htk : (p.list.take k).length ≤ 2048 := by rw [List.length_take]; omega
    have line := cLine [nmOf x.1, opdS p x] (y ++ insTs p (p.list.take k)) (by rw [joinT_two]; simp; omega) (by simp) (by simp only [List.length_append]; omega)
    have e5 : y ++ insTs p (p.list.take k) ++ lineT [nmOf x.1, opdS p x] = y ++ insTs p (p.list.take (k + 1)) := by
      rw [take_snoc hx, insTs_app, ← List.append_assoc]
      congr 1
      simp [insTs, insT]
    rw [e5] at line
    unfold wrO at line
    rw [g9_L19_eq, insL_len, decT (by omega), bsel_true, lget_ins hx, v42_mk, e1, v66_mk, chk_of e2]
    have hx2 : 0 ≤ x.2 ∧ x.2 < 1000000 := by
      unfold okI wd at ho
      have := ho.2.2.1; have := ho.2.2.2; omega
    rw [clX_of (cItoa hx2.1 (by omega)), vS_mk, e4]
    by_cases h10 : x.1 ≤ 10
    · have cb := cBit hp hm (by omega)
      unfold prgP at cb
      rw [decT h10, show ((true : Bool) == true) = true from rfl, bsel_true, clX_of cb, vS_mk, chk_of e3]
      rw [show ([.str (bs (nmOf x.1)), .str (bs (opdS p x))] : List PV) = strsL [nmOf x.1, opdS p x] from rfl, clH_of line, h24_0_mk, wrs (by omega)]
      exact ih (k + 1) (by omega)
    · have eo : decL x.2.toNat = opdS p x := by unfold opdS; rw [if_pos (by omega)]
      rw [decF h10, show ((false : Bool) == true) = false from rfl, bsel_false, chk_of e3, eo]
      rw [show ([.str (bs (nmOf x.1)), .str (bs (opdS p x))] : List PV) = strsL [nmOf x.1, opdS p x] from rfl, clH_of line, h24_0_mk, wrs (by omega)]
      exact ih (k + 1) (by omega)
theorem j17t {p : Prg} (hp : checkS p = 0) (y : List UInt8) (hy : y.length ≤ 10000000) : g9_J17 p.ni p.no p.nm (bitL p.start) (insL p.list) y = Ret (.tuple [.str (bs (y ++ insTs p p.list)), .int .i64 0]) := by
  rw [g9_J17_eq, clX_of c63, vL_mk]
  have := l19t hp y hy p.list.length 0 (by omega)
  rw [List.take_zero, show insTs p [] = [] from rfl, List.append_nil] at this
  exact this
def dgP (b : Bool) : PV := .int .u8 (((bitT b).toNat : Nat) : Int)
def z8 : PV := .int .u8 0
theorem dg_all {q : PV → Bool} (h : ∀ n, q (.int .u8 n) = true) (s : List Bool) (n : Nat) : (s.map dgP ++ List.replicate n z8).all q = true := by
  rw [List.all_append, Bool.and_eq_true]
  exact ⟨by rw [List.all_eq_true]; intro x hx; obtain ⟨b, _, rfl⟩ := List.mem_map.1 hx; exact h _, by rw [List.all_eq_true]; intro x hx; rw [(List.mem_replicate.1 hx).2]; exact h _⟩
theorem l10t {p : Prg} (hp : checkS p = 0) (y : List UInt8) (hy : y.length ≤ 1000000) : ∀ m k : Nat, k + m = p.start.length → g9_L10 p.ni p.no p.nm (bitL p.start) (insL p.list) y (k : Int) ((p.start.take k).map dgP ++ List.replicate m z8) = Ret (.tuple [.str (bs (y ++ lineT [startB, p.start.map bitT] ++ insTs p p.list)), .int .i64 0]) := by
  have hd := head0 (check0 hp).1
  have h256 : p.start.length ≤ 256 := by omega
  intro m
  induction m with
  | zero =>
    intro k h
    have hk : p.start.take k = p.start := List.take_of_length_le (by omega)
    have e1 : chunkP 1 ((p.start.take k).map dgP ++ List.replicate 0 z8) (((bitL p.start).length : Int).toNat) = (p.start.map bitT).map fun x => .int .u8 (x.toNat : Int) := by
      rw [hk, List.replicate_zero, List.append_nil]
      show ((p.start.map dgP).take _).map PV.un = _
      rw [List.take_of_length_le (by simp), List.map_map, List.map_map]
      rfl
    have line := cLine [startB, p.start.map bitT] y (by rw [joinT_two]; simp [startB]; omega) (by simp) (by omega)
    unfold wrO at line
    rw [g9_L10_eq, chk_of (by rw [dg_all (fun _ => rfl)]; rfl), bitL_len, decF (by omega), bsel_false, chk_of (by rw [dg_all (fun _ => rfl)]; simp; omega)]
    rw [bitL_len] at e1
    rw [e1, strOf_bytes, chk_of (by simp only [bytesP, List.all_map]; rw [List.all_eq_true]; intro x hx; simp [isByte])]
    rw [show ([.str ⟨#[115, 116, 97, 114, 116]⟩, .str (bs (p.start.map bitT))] : List PV) = strsL [startB, p.start.map bitT] from rfl, clH_of line, h24_0_mk]
    exact j17t hp _ (by simp only [lineT, joinT_two, List.length_append, List.length_cons, List.length_map]; simp [startB]; omega)
  | succ m ih =>
    intro k h
    obtain ⟨b, hb⟩ := get_lt (show k < p.start.length by omega)
    have hlen : ((p.start.take k).map dgP ++ List.replicate (m + 1) z8).length = p.start.length := by simp; omega
    have hs1 : ∀ v w : PV, ((p.start.take k).map dgP ++ v :: List.replicate m z8).set ((k : Int).toNat) w = (p.start.take k).map dgP ++ w :: List.replicate m z8 := fun v w => by
      rw [Int.toNat_natCast, List.set_append_right _ _ (by simp; omega)]
      have : k - ((p.start.take k).map dgP).length = 0 := by simp; omega
      rw [this]; rfl
    have hfin : ∀ b, p.start[k]? = some b → (p.start.take k).map dgP ++ dgP b :: List.replicate m z8 = (p.start.take (k + 1)).map dgP ++ List.replicate m z8 := fun b hb => by
      rw [take_snoc hb]; simp
    have ha : ∀ n : Int, (((p.start.take k).map dgP ++ PV.int .u8 n :: List.replicate m z8).all flC && true) = true := fun n => by
      rw [Bool.and_true, List.all_append, List.all_cons, Bool.and_eq_true, Bool.and_eq_true]
      refine ⟨?_, rfl, ?_⟩
      · have := dg_all (q := flC) (fun _ => rfl) (p.start.take k) 0; simpa using this
      · have := dg_all (q := flC) (fun _ => rfl) [] m; simpa using this
    rw [g9_L10_eq, chk_of (by rw [dg_all (fun _ => rfl)]; rfl), bitL_len, decT (by omega), bsel_true, chk_of (by rw [dg_all (fun _ => rfl)]; rfl), lget_bit hb, vB_mk, chk_of (by simp; omega), chk_of (by rw [hlen]; simp; omega)]
    rw [List.replicate_succ, hs1, hs1, wrs (by omega)]
    cases b with
    | true =>
      rw [bsel_true, chk_of (by simp; omega), chk_of (by simp; omega), chk_of (ha _)]
      rw [show (PV.int .u8 49) = dgP true from rfl, hfin true hb]
      exact ih (k + 1) (by omega)
    | false =>
      rw [bsel_false, chk_of (ha _)]
      rw [show (PV.int .u8 48) = dgP false from rfl, hfin false hb]
      exact ih (k + 1) (by omega)
theorem cText {p : Prg} (hp : checkS p = 0) : SS.CC 9 [prgP p] [] = Ret (.tuple [.str (bs (txtS p)), .int .i64 0]) := by
  have hh := (check0 hp).1
  have hd := head0 hh
  have hc := c25 p
  have h40 := head_le hh
  have line := cLine [progB, decL p.ni.toNat, decL p.no.toNat, decL p.nm.toNat] [] (by have := h40.1; unfold headT lineT at this; simp at this; omega) (by simp) (by simp)
  unfold wrO at line
  unfold prgP at hc ⊢
  rw [g9_eq, clX_of hc, vI_mk, neF hp, bsel_false, clX_of (cItoa hd.1 (by omega)), vS_mk, clX_of (cItoa hd.2.2.1 (by omega)), vS_mk, clX_of (cItoa hd.2.2.2.2.1 (by omega)), vS_mk]
  rw [show ([.str ⟨#[112, 114, 111, 103, 114, 97, 109]⟩, .str (bs (decL p.ni.toNat)), .str (bs (decL p.no.toNat)), .str (bs (decL p.nm.toNat))] : List PV) = strsL [progB, decL p.ni.toNat, decL p.no.toNat, decL p.nm.toNat] from rfl, clH_of line, h24_0_mk, List.nil_append]
  unfold txtS memT
  by_cases hm : 0 < p.nm
  · rw [decT hm, bsel_true, if_pos hm, chk_of (by simp; omega)]
    have := l10t hp (headT p) (by omega) p.start.length 0 (by omega)
    rw [List.take_zero, List.map_nil, List.nil_append] at this
    rw [bitL_len, Int.toNat_natCast]
    exact this
  · rw [decF hm, bsel_false, if_neg hm, List.append_nil]
    exact j17t hp (headT p) (by omega)
/-! ### the model's text -/
theorem cNames : SS.CC 35 [] [] = Ret (.sl false 1 (strsL ([] :: opTx))) := g35_eq
theorem sz_app {a b : List UInt8} (h : a.length + b.length ≤ 100000000) : decide ((bs a).size + (bs b).size ≤ LIM) = true := by simp [LIM]; omega
theorem l13t {p : Prg} (hp : checkS p = 0) (y : List UInt8) (hy : y.length ≤ 10000000) : ∀ m k : Nat, k + m = p.list.length → g11_L13 p.ni p.no p.nm (bitL p.start) (insL p.list) (bs (y ++ insTs p (p.list.take k))) (k : Int) = Ret (.str (bs (y ++ insTs p p.list))) := by
  obtain ⟨hh, hok, _⟩ := check0 hp
  intro m
  induction m with
  | zero =>
    intro k h
    rw [g11_L13_eq, insL_len, decF (by omega), bsel_false, List.take_of_length_le (by omega)]
  | succ m ih =>
    intro k h
    obtain ⟨x, hx⟩ := get_lt (show k < p.list.length by omega)
    have hm := List.mem_of_getElem? hx
    have ho := hok.2 k x hx
    have hb := insTs_le hp (p.list.take k) fun z hz => List.mem_of_mem_take hz
    have hol := opd_le hp hm
    have hnm := (nm_of ho.1 ho.2.1).2.2.2
    have hl2 := hok.1
    have htk : (p.list.take k).length ≤ 2048 := by rw [List.length_take]; omega
    have hnl : ∀ K : PV → R, lgetX (strsL ([] :: opTx)) x.1 K = K (.str (bs (nmOf x.1))) := fun K => by
      obtain ⟨j, hj⟩ : ∃ j : Nat, x.1 = ((j + 1 : Nat) : Int) := ⟨(x.1 - 1).toNat, by have := ho.1; omega⟩
      rw [hj]
      refine strsL_get ?_
      have : nmOf ((j + 1 : Nat) : Int) = opTx.getD j [] := by unfold nmOf; congr 1; omega
      rw [this, List.getElem?_cons_succ, List.getD_eq_getElem?_getD]
      have hj13 : j < opTx.length := by have := ho.2.1; show j < 13; omega
      rw [List.getElem?_eq_getElem hj13]; rfl
    have co := cOpd hp hm
    unfold prgP insP at co
    have b1 : (y ++ insTs p (p.list.take k)).length ≤ 11000000 := by rw [List.length_append]; omega
    rw [g11_L13_eq, insL_len, decT (by omega), bsel_true, clX_of cNames, vL_mk, lget_ins hx, v42_mk, hnl, vS_mk, chk_of (sz_app (by omega)), bs_app]
    rw [show (⟨#[32]⟩ : ByteArray) = bs [32] from rfl, show (⟨#[10]⟩ : ByteArray) = bs [10] from rfl]
    rw [chk_of (sz_app (by simp only [List.length_append, List.length_cons, List.length_nil] at b1 ⊢; omega)), lget_ins hx, v42_mk, clX_of co, vS_mk, bs_app]
    rw [chk_of (sz_app (by simp only [List.length_append, List.length_cons, List.length_nil] at b1 ⊢; omega)), bs_app]
    rw [chk_of (sz_app (by simp only [List.length_append, List.length_cons, List.length_nil] at b1 ⊢; omega)), bs_app, wrs (by omega)]
    have e5 : y ++ insTs p (p.list.take k) ++ nmOf x.1 ++ [32] ++ opdS p x ++ [10] = y ++ insTs p (p.list.take (k + 1)) := by
      rw [take_snoc hx, insTs_app]
      simp [insTs, insT, lineT, joinT_two]
    rw [e5]
    exact ih (k + 1) (by omega)
theorem j12t {p : Prg} (hp : checkS p = 0) (y : List UInt8) (hy : y.length ≤ 10000000) : g11_J12 p.ni p.no p.nm (bitL p.start) (insL p.list) (bs y) = Ret (.str (bs (y ++ insTs p p.list))) := by
  have := l13t hp y hy p.list.length 0 (by omega)
  rw [List.take_zero, show insTs p [] = [] from rfl, List.append_nil] at this
  rw [g11_J12_eq]; exact this
theorem l6t {p : Prg} (hp : checkS p = 0) (y : List UInt8) (hy : y.length ≤ 1000000) : ∀ m k : Nat, k + m = p.start.length → g11_L6 p.ni p.no p.nm (bitL p.start) (insL p.list) (bs (y ++ (p.start.take k).map bitT)) (k : Int) = Ret (.str (bs (y ++ p.start.map bitT ++ [10] ++ insTs p p.list))) := by
  have hd := head0 (check0 hp).1
  have h256 : p.start.length ≤ 256 := by omega
  intro m
  induction m with
  | zero =>
    intro k h
    rw [g11_L6_eq, bitL_len, decF (by omega), bsel_false, List.take_of_length_le (by omega), show (⟨#[10]⟩ : ByteArray) = bs [10] from rfl, chk_of (sz_app (by simp; omega)), bs_app]
    exact j12t hp _ (by simp; omega)
  | succ m ih =>
    intro k h
    obtain ⟨b, hb⟩ := get_lt (show k < p.start.length by omega)
    have htk : (p.start.take k).length ≤ 256 := by rw [List.length_take]; omega
    have e := ih (k + 1) (by omega)
    rw [take_snoc hb, List.map_append, ← List.append_assoc] at e
    rw [g11_L6_eq, bitL_len, decT (by omega), bsel_true, lget_bit hb, vB_mk, wrs (by omega), show (⟨#[49]⟩ : ByteArray) = bs [49] from rfl, show (⟨#[48]⟩ : ByteArray) = bs [48] from rfl]
    cases b with
    | true => rw [bsel_true, chk_of (sz_app (by simp; omega)), bs_app]; exact e
    | false => rw [bsel_false, chk_of (sz_app (by simp; omega)), bs_app]; exact e
theorem cTxt {p : Prg} (hp : checkS p = 0) : SS.CC 11 [prgP p] [] = Ret (.str (bs (txtS p))) := by
  have hh := (check0 hp).1
  have hd := head0 hh
  have h1 := dec_le (n := p.ni.toNat) (by omega)
  have h2 := dec_le (n := p.no.toNat) (by omega)
  have h3 := dec_le (n := p.nm.toNat) (by omega)
  unfold prgP
  rw [g11_eq, clX_of (cNum hd.1 (by omega)), vS_mk]
  rw [show (⟨#[112, 114, 111, 103, 114, 97, 109, 32]⟩ : ByteArray) = bs (progB ++ [32]) from rfl, show (⟨#[32]⟩ : ByteArray) = bs [32] from rfl, show (⟨#[10]⟩ : ByteArray) = bs [10] from rfl, show (⟨#[115, 116, 97, 114, 116, 32]⟩ : ByteArray) = bs (startB ++ [32]) from rfl]
  rw [chk_of (sz_app (by simp [progB]; omega)), bs_app, chk_of (sz_app (by simp [progB]; omega)), bs_app, clX_of (cNum hd.2.2.1 (by omega)), vS_mk, chk_of (sz_app (by simp [progB]; omega)), bs_app, chk_of (sz_app (by simp [progB]; omega)), bs_app, clX_of (cNum hd.2.2.2.2.1 (by omega)), vS_mk, chk_of (sz_app (by simp [progB]; omega)), bs_app, chk_of (sz_app (by simp [progB]; omega)), bs_app]
  have e1 : progB ++ [32] ++ decL p.ni.toNat ++ [32] ++ decL p.no.toNat ++ [32] ++ decL p.nm.toNat ++ [10] = headT p := by unfold headT lineT; rw [joinT_four]; simp
  rw [e1]
  have h40 := head_le hh
  unfold txtS memT
  by_cases hm : 0 < p.nm
  · rw [decT hm, bsel_true, if_pos hm, chk_of (sz_app (by simp [startB]; omega)), bs_app]
    have := l6t hp (headT p ++ (startB ++ [32])) (by simp [startB]; omega) p.start.length 0 (by omega)
    rw [List.take_zero, List.map_nil, List.append_nil] at this
    refine this.trans ?_
    unfold lineT
    rw [joinT_two]; simp
  · rw [decF hm, bsel_false, if_neg hm, List.append_nil]
    exact j12t hp (headT p) (by omega)
/-! ### Equal -/
theorem c18t (a b : List Bool) (ha : a.length ≤ 1000000) : SS.CC 18 [.sl false 1 (bitL a), .sl false 1 (bitL b)] [] = Ret (.bool (decide (a = b))) := by
  rw [g18_eq]
  by_cases hl : a.length = b.length
  · rw [show (((bitL a).length : Int) != ((bitL b).length : Int)) = false by simp [hl], bsel_false]
    have key : ∀ m k : Nat, k + m = a.length → a.take k = b.take k → g18_L5 (bitL a) (bitL b) (k : Int) = Ret (.bool (decide (a = b))) := by
      intro m
      induction m with
      | zero =>
        intro k h h2
        rw [List.take_of_length_le (by omega), List.take_of_length_le (by omega)] at h2
        rw [g18_L5_eq, decF (by simp; omega), bsel_false, decT h2]
      | succ m ih =>
        intro k h h2
        obtain ⟨x, hx⟩ := get_lt (show k < a.length by omega)
        obtain ⟨y, hy⟩ := get_lt (show k < b.length by omega)
        rw [g18_L5_eq, decT (by simp; omega), bsel_true, lget_bit hx, vB_mk, lget_bit hy, vB_mk, wrs (by omega)]
        by_cases hxy : x = y
        · rw [show (!(x == y)) = false by simp [hxy], bsel_false]
          exact ih (k + 1) (by omega) ((take_snoc_eq hx hy).2 ⟨h2, hxy⟩)
        · rw [show (!(x == y)) = true by simp [hxy], bsel_true, decF (fun e => by subst e; rw [hx] at hy; injection hy with hy; exact hxy hy)]
    exact key a.length 0 (by omega) rfl
  · rw [show (((bitL a).length : Int) != ((bitL b).length : Int)) = true by simp; omega, bsel_true, decF (fun e => hl (by rw [e]))]
theorem c19t (a b : List Ins) (ha : a.length ≤ 1000000) : SS.CC 19 [.sl false 2 (insL a), .sl false 2 (insL b)] [] = Ret (.bool (decide (a = b))) := by
  rw [g19_eq]
  by_cases hl : a.length = b.length
  · rw [show (((insL a).length : Int) != ((insL b).length : Int)) = false by simp [hl], bsel_false]
    have key : ∀ m k : Nat, k + m = a.length → a.take k = b.take k → g19_L5 (insL a) (insL b) (k : Int) = Ret (.bool (decide (a = b))) := by
      intro m
      induction m with
      | zero =>
        intro k h h2
        rw [List.take_of_length_le (by omega), List.take_of_length_le (by omega)] at h2
        rw [g19_L5_eq, decF (by simp; omega), bsel_false, decT h2]
      | succ m ih =>
        intro k h h2
        obtain ⟨x, hx⟩ := get_lt (show k < a.length by omega)
        obtain ⟨y, hy⟩ := get_lt (show k < b.length by omega)
        rw [g19_L5_eq, decT (by simp; omega), bsel_true, lget_ins hx, v42_mk, lget_ins hy, v42_mk, wrs (by omega)]
        by_cases hxy : x = y
        · rw [show (!((x.1 == y.1) && ((x.2 == y.2) && true))) = false by subst hxy; simp, bsel_false]
          exact ih (k + 1) (by omega) ((take_snoc_eq hx hy).2 ⟨h2, hxy⟩)
        · have : (!((x.1 == y.1) && ((x.2 == y.2) && true))) = true := by
            cases hb : ((x.1 == y.1) && ((x.2 == y.2) && true)) with
            | false => rfl
            | true =>
              simp only [Bool.and_eq_true, beq_iff_eq] at hb
              exact absurd (Prod.ext hb.1 hb.2.1) hxy
          rw [this, bsel_true, decF (fun e => by subst e; rw [hx] at hy; injection hy with hy; exact hxy hy)]
    exact key a.length 0 (by omega) rfl
  · rw [show (((insL a).length : Int) != ((insL b).length : Int)) = true by simp; omega, bsel_true, decF (fun e => hl (by rw [e]))]
theorem cEq (p q : Prg) (hp : p.start.length ≤ 1000000) (hl : p.list.length ≤ 1000000) : SS.CC 6 [prgP p, prgP q] [] = Ret (.bool (eqPB p q)) := by
  unfold prgP eqPB
  rw [g6_eq]
  by_cases h1 : p.ni = q.ni
  · rw [eqT h1, bsel_true, decT h1, Bool.true_and]
    by_cases h2 : p.no = q.no
    · rw [eqT h2, bsel_true, decT h2, Bool.true_and]
      by_cases h3 : p.nm = q.nm
      · rw [eqT h3, bsel_true, decT h3, Bool.true_and, clX_of (c18t _ _ hp), vB_mk]
        by_cases h4 : p.start = q.start
        · rw [decT h4, bsel_true, clX_of (c19t _ _ hl), vB_mk, Bool.true_and]
        · rw [decF h4, bsel_false, Bool.false_and]
      · rw [eqF h3, bsel_false, decF h3, Bool.false_and]
    · rw [eqF h2, bsel_false, decF h2, Bool.false_and]
  · rw [eqF h1, bsel_false, decF h1, Bool.false_and]
/-! ### the law -/
theorem lawT (p q : Prg) : SS.CC 3 [prgP p, prgP q] [] = Ret (.bool true) := by
  have f1 := c33 p; have f2 := c33 q
  unfold prgP at f1 f2 ⊢
  rw [g3_eq, c10k, vB_mk, Bool.not_true, bsel_false, clX_of f1, vB_mk]
  by_cases hp : p.list.length ≤ 14 ∧ p.start.length ≤ 20
  rotate_left
  · have : (decide (p.list.length ≤ 14) && decide (p.start.length ≤ 20)) = false := by simpa using hp
    rw [this, Bool.not_false, bsel_true, c10k, vB_mk]
  have hp2 : (decide (p.list.length ≤ 14) && decide (p.start.length ≤ 20)) = true := by simpa using hp
  rw [hp2, Bool.not_true, bsel_false, clX_of f2, vB_mk]
  by_cases hq : q.list.length ≤ 14 ∧ q.start.length ≤ 20
  rotate_left
  · have : (decide (q.list.length ≤ 14) && decide (q.start.length ≤ 20)) = false := by simpa using hq
    rw [this, Bool.not_false, bsel_true, c10k, vB_mk]
  have hq2 : (decide (q.list.length ≤ 14) && decide (q.start.length ≤ 20)) = true := by simpa using hq
  have e1 := cEq p q (by omega) (by omega); have e2 := c24 p q (by omega) (by omega); have e3 := cEq p p (by omega) (by omega); have e4 := c24 p p (by omega) (by omega)
  have k := c34 p
  unfold prgP at e1 e2 e3 e4 k
  rw [hq2, Bool.not_true, bsel_false, clX_of e1, vB_mk, clX_of e2, vB_mk, show (!(eqPB p q == eqPB p q)) = false by simp, bsel_false, clX_of e3, vB_mk, eqPB_refl, Bool.not_true, bsel_false, clX_of k, vI_mk]
  by_cases hc : checkS p = 0
  rotate_left
  · rw [neT hc, bsel_true]
  have t1 := cText hc; have t2 := cTxt hc
  have hlen := txt_le hc hp.1
  have t3 := c26 (txtS p) (by omega)
  rw [txt_back hc] at t3
  unfold parP at t3
  unfold prgP at t1 t2 t3
  rw [eqPB_refl] at e4
  rw [neF hc, bsel_false, clX_of t1, w_9_3_mk, clX_of t3, w_24_3_3_mk, eqT rfl, bsel_true, clX_of t2, vS_mk, bs_tl, beqT rfl, bsel_true, bsel_true, bsel_true, clX_of e4, vB_mk]
end Go.Proofs.YtiejgieiokmmfaaGreatDoor
