/-
  Keys of markings; the map of a search.
-/
import Derived.Test.YtkkgfoknknehfaaDoorCT2
import Derived.Test.YtkkgfoknknehfaaDoorTTh
namespace Go.Proofs.YtkkgfoknknehfaaDoor.W
set_option linter.unusedVariables false
set_option linter.unusedSimpArgs false
set_option linter.unnecessarySimpa false
set_option linter.unusedSectionVars false
open Go.RowKit
set_option maxRecDepth 100000
theorem CC_c0 {g : FuncId} {args : List PV} {h : Objs} {v : PV × Objs} (e : CS g args h = some v) : SS.CC g args h = some v := by
  rw [CC_eq SS_ok]
  show orR (CS g args h) _ = _
  rw [e]; rfl
/-! ### decimal digits -/
theorem dd_lt {u : Nat} (h : u < 10) : Lib.decDigits u = [UInt8.ofNat (48 + u)] := by
  rw [Lib.decDigits, dif_pos h]
theorem dd_ge {u : Nat} (h : ¬ u < 10) : Lib.decDigits u = Lib.decDigits (u / 10) ++ [UInt8.ofNat (48 + u % 10)] := by
  rw [Lib.decDigits, dif_neg h]
theorem dd_len (u : Nat) : (Lib.decDigits u).length ≤ u + 1 := by
  induction u using Nat.strongRecOn with
  | ind u ih =>
    by_cases h : u < 10
    · rw [dd_lt h]; simp
    · rw [dd_ge h, List.length_append]
      have := ih (u / 10) (by omega)
      simp only [List.length_cons, List.length_nil]; omega
def ddv (l : List UInt8) : Nat := l.foldl (fun a b => a * 10 + (b.toNat - 48)) 0
theorem dd_b {d : Nat} (h : d < 10) : (UInt8.ofNat (48 + d)).toNat = 48 + d := by
  rw [UInt8.toNat_ofNat']; omega
theorem dd_val (u : Nat) : ddv (Lib.decDigits u) = u := by
  induction u using Nat.strongRecOn with
  | ind u ih =>
    by_cases h : u < 10
    · rw [dd_lt h, ddv, List.foldl_cons, List.foldl_nil, dd_b h]; omega
    · have := ih (u / 10) (by omega)
      unfold ddv at this
      rw [dd_ge h, ddv, List.foldl_append, this, List.foldl_cons, List.foldl_nil, dd_b (by omega)]; omega
theorem dd_inj {u v : Nat} (h : Lib.decDigits u = Lib.decDigits v) : u = v := by rw [← dd_val u, h, dd_val]
theorem dd_32 (u : Nat) : (32 : UInt8) ∉ Lib.decDigits u := by
  induction u using Nat.strongRecOn with
  | ind u ih =>
    have hb : ∀ d, d < 10 → (32 : UInt8) ≠ UInt8.ofNat (48 + d) := fun d hd e => by
      have := congrArg UInt8.toNat e
      rw [dd_b hd] at this
      have h2 : (32 : UInt8).toNat = 32 := rfl
      omega
    by_cases h : u < 10
    · rw [dd_lt h, List.mem_singleton]; exact hb u h
    · rw [dd_ge h, List.mem_append, List.mem_singleton]
      rintro (c | c)
      · exact ih (u / 10) (by omega) c
      · exact hb _ (by omega) c
/-! ### keys -/
def ky : List Int → List UInt8
  | [] => []
  | x :: l => Lib.decDigits x.toNat ++ 32 :: ky l
theorem sep_inj {α : Type} {s : α} : ∀ {a b c d : List α}, s ∉ a → s ∉ b → a ++ s :: c = b ++ s :: d → a = b ∧ c = d
  | [], [], _, _, _, _, h => ⟨rfl, by simpa using h⟩
  | [], y :: b, _, _, _, hb, h => by injection h with h1 _; exact absurd (by rw [h1]; simp) hb
  | x :: a, [], _, _, ha, _, h => by injection h with h1 _; exact absurd (by rw [← h1]; simp) ha
  | x :: a, y :: b, c, d, ha, hb, h => by
    injection h with h1 h2
    obtain ⟨h3, h4⟩ := sep_inj (fun c => ha (by simp [c])) (fun c => hb (by simp [c])) h2
    exact ⟨by rw [h1, h3], h4⟩
theorem ky_inj : ∀ {l m : List Int}, l.length = m.length → (∀ x, x ∈ l → 0 ≤ x) → (∀ x, x ∈ m → 0 ≤ x) → ky l = ky m → l = m
  | [], [], _, _, _, _ => rfl
  | [], _ :: _, h, _, _, _ => by simp at h
  | _ :: _, [], h, _, _, _ => by simp at h
  | x :: l, y :: m, h, hl, hm, e => by
    obtain ⟨h1, h2⟩ := sep_inj (dd_32 _) (dd_32 _) e
    have h3 := dd_inj h1
    have hx := hl x (by simp)
    have hy := hm y (by simp)
    rw [show x = y by omega, ky_inj (by simpa using h) (fun z hz => hl z (by simp [hz])) (fun z hz => hm z (by simp [hz])) h2]
theorem ky_append : ∀ a b : List Int, ky (a ++ b) = ky a ++ ky b
  | [], _ => rfl
  | x :: a, b => by rw [List.cons_append, ky, ky, ky_append a b]; simp
theorem ky_len : ∀ {l : List Int}, (∀ x, x ∈ l → 0 ≤ x ∧ x ≤ 65536) → (ky l).length ≤ 65538 * l.length
  | [], _ => by simp [ky]
  | x :: l, h => by
    have h1 := dd_len x.toNat
    have h2 := h x (by simp)
    have h3 := ky_len (l := l) fun z hz => h z (by simp [hz])
    rw [ky]
    simp only [List.length_append, List.length_cons]
    omega
def kyf (P : Nat) (f : Nat → Int) : List UInt8 := ky ((List.range P).map f)
theorem kyf_S (P : Nat) (f : Nat → Int) : kyf (P + 1) f = kyf P f ++ (Lib.decDigits (f P).toNat ++ [32]) := by
  unfold kyf; rw [List.range_succ, List.map_append, ky_append]; rfl
theorem kyf_inj {P : Nat} {f g : Nat → Int} (hf : ∀ p, p < P → 0 ≤ f p) (hg : ∀ p, p < P → 0 ≤ g p) (h : kyf P f = kyf P g) : mv P f = mv P g := by
  unfold mv
  rw [ky_inj (by simp) (fun x hx => ?_) (fun x hx => ?_) h]
  · obtain ⟨p, hp, rfl⟩ := List.mem_map.1 hx; exact hf p (List.mem_range.1 hp)
  · obtain ⟨p, hp, rfl⟩ := List.mem_map.1 hx; exact hg p (List.mem_range.1 hp)
theorem kyf_len {P : Nat} {f : Nat → Int} (hf : ∀ p, p < P → 0 ≤ f p ∧ f p ≤ 65536) : (kyf P f).length ≤ 65538 * P := by
  have := ky_len (l := (List.range P).map f) fun x hx => by obtain ⟨p, hp, rfl⟩ := List.mem_map.1 hx; exact hf p (List.mem_range.1 hp)
  rw [List.length_map, List.length_range] at this; exact this
def bs (l : List UInt8) : ByteArray := ⟨l.toArray⟩
section
variable {g : FuncId} {a : List PV} {h0 : Objs}
theorem H25_of {K} {n : Int} {l : List UInt8} (h : SS.CC g a h0 = some (.tuple [.int .i64 n, .raw .nilIface], [O42 (l, ())])) : H25 g a h0 K = K ((n, ()), (), ()) (l, ()) := clH_to h rfl
theorem H26_of {K} {l : List UInt8} (h : SS.CC g a h0 = some (.raw .nilIface, [O42 (l, ())])) : H26 g a h0 K = K (l, ()) := clH_to h rfl
theorem H27_of {K} {s : ByteArray} {l : List PV} (h : SS.CC g a h0 = some (.str s, [some [.bld 123 0, .sl false 1 l]])) : H27 g a h0 K = K s (l, ()) := clH_to h rfl
theorem H29_of {K} {l : List UInt8} (h : SS.CC g a h0 = some (.tuple [], [O42 (l, ())])) : H29 g a h0 K = K () (l, ()) := clH_to h rfl
theorem H19_of {K} {u : Sh.V S37} {m : List PV} (h : SS.CC g a h0 = some (.tuple [], [O37 u, O27 (m, ())])) : H19 g a h0 K = K () u (m, ()) := clH_to h rfl
theorem H20_of {K} {n : Int} {u : Sh.V S37} {m : List PV} (h : SS.CC g a h0 = some (.int .i64 n, [O37 u, O27 (m, ())])) : H20 g a h0 K = K n u (m, ()) := clH_to h rfl
end
theorem c74 (b : List UInt8) : SS.CC 74 [.ptr 0 0] [O42 (b, ())] = some (.tuple [], [O42 (b, ())]) := CC_c0 rfl
theorem c65 (b : List UInt8) : SS.CC 65 [.ptr 0 0] [O42 (b, ())] = some (.str (bs b), [some [.bld 123 0, .sl false 1 (bytesPV b)]]) := CC_c0 rfl
theorem c63 {n : Int} (h0 : 0 ≤ n) (h1 : n ≤ 65536) : SS.CC 63 [.int .i64 n] [] = some (.str (bs (Lib.decDigits n.toNat)), []) := by
  refine CC_c0 ?_
  unfold CS
  simp only []
  rw [decT h0, decT (show n < ITOAB by unfold ITOAB; omega)]
  rfl
theorem bs_data (l : List UInt8) : (bs l).data.toList = l := by simp [bs]
theorem bs_size (l : List UInt8) : (bs l).size = l.length := by simp [bs, ByteArray.size]
theorem c62 {b s : List UInt8} (h : b.length + s.length ≤ LIM) : SS.CC 62 [.ptr 0 0, .str (bs s)] [O42 (b, ())] = some (.tuple [.int .i64 (s.length : Int), .raw .nilIface], [O42 (b ++ s, ())]) := by
  rw [g62_eq, H29_of (c74 b), bs_size, decT h, bs_data]; rfl
theorem c64 {b : List UInt8} (h : b.length + 1 ≤ LIM) : SS.CC 64 [.ptr 0 0, .int .u8 32] [O42 (b, ())] = some (.raw .nilIface, [O42 (b ++ [32], ())]) := by
  rw [g64_eq, H29_of (c74 b), decT h]; rfl
theorem c50 {P : Nat} {f : Nat → Int} (hP : P ≤ 10) (hf : ∀ p, p < P → 0 ≤ f p ∧ f p ≤ 65536) : SS.CC 50 [.sl false 1 (mv P f)] [] = some (.str (bs (kyf P f)), []) := by
  have key : ∀ i, i ≤ P → g50_L4 (mv P f) (i : Int) (kyf i f) = some (.str (bs (kyf P f)), []) := by
    refine up_to ?_ fun i hi ih => ?_
    · rw [g50_L4_eq, mv_length, decF (by omega), bsel_false, H27_of (c65 _)]
    · have b1 := kyf_len (P := i) (f := f) fun p hp => hf p (by omega)
      have b2 := hf i hi
      have b3 := dd_len (f i).toNat
      rw [g50_L4_eq, mv_length, decT (by omega), bsel_true, lget_mv hi, vI_mk, G18_of (c63 b2.1 b2.2), H25_of (c62 (by unfold LIM; omega)), H26_of (c64 (b := kyf i f ++ Lib.decDigits (f i).toNat) (by rw [List.length_append]; unfold LIM; omega)), wrs (by omega), ← ih, kyf_S, List.append_assoc]
  rw [g50_eq]
  exact key 0 (by omega)
/-! ### the map -/
def mpL : List (List UInt8 × Nat) → List PV
  | [] => []
  | a :: l => .str (bs a.1) :: iP (a.2 : Int) :: mpL l
theorem eqK_s (a b : List UInt8) : eqK none (.str (bs a)) (.str (bs b)) = some (decide (a = b)) := by
  show some ((bs a).data.toList == (bs b).data.toList) = _
  rw [bs_data, bs_data]
  by_cases h : a = b <;> simp [h]
theorem get_mpL (q : List UInt8) : ∀ l, ∃ o : Option Nat, mapGet none (mpL l) (.str (bs q)) = some (o.map fun (i : Nat) => iP (i : Int)) ∧ ∀ i, o = some i → (q, i) ∈ l
  | [] => ⟨none, rfl, fun _ h => by cases h⟩
  | a :: l => by
    rw [mpL, mapGet, eqK_s]
    by_cases h : q = a.1
    · rw [decT h]
      exact ⟨some a.2, rfl, fun i hi => by cases hi; rw [h]; simp⟩
    · rw [decF h]
      obtain ⟨o, h1, h2⟩ := get_mpL q l
      exact ⟨o, h1, fun i hi => by simp [h2 i hi]⟩
theorem ok_mpL (q : List UInt8) : ∀ l, mapOK none (mpL l) (.str (bs q)) = true
  | [] => rfl
  | a :: l => by rw [mpL, mapOK, ok_mpL q l, eqK_s]; rfl
theorem mod_mpL (q : List UInt8) (i : Nat) : ∀ l, ∃ l', mapMod none (mpL l) (.str (bs q)) (iP (i : Int)) = mpL l' ∧ ∀ x, x ∈ l' → x = (q, i) ∨ x ∈ l
  | [] => ⟨[], rfl, fun x h => by cases h⟩
  | a :: l => by
    rw [mpL, mapMod, eqK_s]
    by_cases h : q = a.1
    · rw [decT h]
      exact ⟨(q, i) :: l, rfl, fun x h => (List.mem_cons.1 h).imp id fun h => by simp [h]⟩
    · rw [decF h]
      obtain ⟨l', h1, h2⟩ := mod_mpL q i l
      exact ⟨a :: l', by rw [mpL, ← h1], fun x h => by
        rcases List.mem_cons.1 h with h | h
        · exact .inr (by simp [h])
        · exact (h2 x h).imp id fun h => by simp [h]⟩
theorem ins_mpL (q : List UInt8) (i : Nat) : ∀ l, ∃ l', mapIns (mpL l) (.str (bs q)) (iP (i : Int)) = mpL l' ∧ ∀ x, x ∈ l' → x = (q, i) ∨ x ∈ l
  | [] => ⟨[(q, i)], rfl, fun x h => by simp at h; exact .inl h⟩
  | a :: l => by
    obtain ⟨l', h1, h2⟩ := ins_mpL q i l
    rw [mpL, mapIns, h1]
    split
    · exact ⟨(q, i) :: a :: l, rfl, fun x h => List.mem_cons.1 h⟩
    · exact ⟨a :: l', rfl, fun x h => by
        rcases List.mem_cons.1 h with h | h
        · exact .inr (by simp [h])
        · exact (h2 x h).imp id fun h => by simp [h]⟩
theorem put_mpL (q : List UInt8) (i : Nat) (l : List (List UInt8 × Nat)) : ∃ l', mapPut none (mpL l) (.str (bs q)) (iP (i : Int)) = mpL l' ∧ ∀ x, x ∈ l' → x = (q, i) ∨ x ∈ l := by
  unfold mapPut
  cases mapHas none (mpL l) (.str (bs q))
  · exact ins_mpL q i l
  · exact mod_mpL q i l
end Go.Proofs.YtkkgfoknknehfaaDoor.W
