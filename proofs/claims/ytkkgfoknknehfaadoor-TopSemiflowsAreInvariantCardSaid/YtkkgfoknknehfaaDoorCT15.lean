/-
  The net of a shape.
-/
import Derived.Test.YtkkgfoknknehfaaDoorCT14
namespace Go.Proofs.YtkkgfoknknehfaaDoor.W
set_option linter.unusedVariables false
set_option linter.unusedSimpArgs false
set_option linter.unnecessarySimpa false
set_option linter.unusedSectionVars false
open Go.RowKit
set_option maxRecDepth 100000
set_option maxHeartbeats 1000000
abbrev cl (q : Sh.V S1) : List PV := [.int .u8 q.1, .int .u8 q.2.1, .int .u8 q.2.2.1, .int .u8 q.2.2.2.1, .int .u8 q.2.2.2.2.1, .int .u8 q.2.2.2.2.2.1, .int .u8 q.2.2.2.2.2.2.1, .int .u8 q.2.2.2.2.2.2.2.1, .int .u8 q.2.2.2.2.2.2.2.2.1, .int .u8 q.2.2.2.2.2.2.2.2.2.1, .int .u8 q.2.2.2.2.2.2.2.2.2.2.1, .int .u8 q.2.2.2.2.2.2.2.2.2.2.2.1, .int .u8 q.2.2.2.2.2.2.2.2.2.2.2.2.1, .int .u8 q.2.2.2.2.2.2.2.2.2.2.2.2.2.1, .int .u8 q.2.2.2.2.2.2.2.2.2.2.2.2.2.2.1, .int .u8 q.2.2.2.2.2.2.2.2.2.2.2.2.2.2.2.1, .int .u8 q.2.2.2.2.2.2.2.2.2.2.2.2.2.2.2.2.1, .int .u8 q.2.2.2.2.2.2.2.2.2.2.2.2.2.2.2.2.2.1, .int .u8 q.2.2.2.2.2.2.2.2.2.2.2.2.2.2.2.2.2.2.1, .int .u8 q.2.2.2.2.2.2.2.2.2.2.2.2.2.2.2.2.2.2.2.1, .int .u8 q.2.2.2.2.2.2.2.2.2.2.2.2.2.2.2.2.2.2.2.2.1, .int .u8 q.2.2.2.2.2.2.2.2.2.2.2.2.2.2.2.2.2.2.2.2.2.1, .int .u8 q.2.2.2.2.2.2.2.2.2.2.2.2.2.2.2.2.2.2.2.2.2.2.1, .int .u8 q.2.2.2.2.2.2.2.2.2.2.2.2.2.2.2.2.2.2.2.2.2.2.2.1, .int .u8 q.2.2.2.2.2.2.2.2.2.2.2.2.2.2.2.2.2.2.2.2.2.2.2.2.1, .int .u8 q.2.2.2.2.2.2.2.2.2.2.2.2.2.2.2.2.2.2.2.2.2.2.2.2.2.1, .int .u8 q.2.2.2.2.2.2.2.2.2.2.2.2.2.2.2.2.2.2.2.2.2.2.2.2.2.2.1, .int .u8 q.2.2.2.2.2.2.2.2.2.2.2.2.2.2.2.2.2.2.2.2.2.2.2.2.2.2.2.1, .int .u8 q.2.2.2.2.2.2.2.2.2.2.2.2.2.2.2.2.2.2.2.2.2.2.2.2.2.2.2.2.1, .int .u8 q.2.2.2.2.2.2.2.2.2.2.2.2.2.2.2.2.2.2.2.2.2.2.2.2.2.2.2.2.2.1, .int .u8 q.2.2.2.2.2.2.2.2.2.2.2.2.2.2.2.2.2.2.2.2.2.2.2.2.2.2.2.2.2.2.1, .int .u8 q.2.2.2.2.2.2.2.2.2.2.2.2.2.2.2.2.2.2.2.2.2.2.2.2.2.2.2.2.2.2.2.1, .int .u8 q.2.2.2.2.2.2.2.2.2.2.2.2.2.2.2.2.2.2.2.2.2.2.2.2.2.2.2.2.2.2.2.2.1, .int .u8 q.2.2.2.2.2.2.2.2.2.2.2.2.2.2.2.2.2.2.2.2.2.2.2.2.2.2.2.2.2.2.2.2.2.1, .int .u8 q.2.2.2.2.2.2.2.2.2.2.2.2.2.2.2.2.2.2.2.2.2.2.2.2.2.2.2.2.2.2.2.2.2.2.1, .int .u8 q.2.2.2.2.2.2.2.2.2.2.2.2.2.2.2.2.2.2.2.2.2.2.2.2.2.2.2.2.2.2.2.2.2.2.2.1, .int .u8 q.2.2.2.2.2.2.2.2.2.2.2.2.2.2.2.2.2.2.2.2.2.2.2.2.2.2.2.2.2.2.2.2.2.2.2.2.1]
/-- Every cell is a byte. -/
def U8 (q : Sh.V S1) : Prop := ∀ i, i < 37 → ∃ v : Int, 0 ≤ v ∧ v ≤ 255 ∧ (cl q)[i]? = some (.int .u8 v)
theorem nget_of {es : List PV} {i : Nat} {e : PV} {K : PV → R} (h : es[i]? = some e) : ngetX es i K = K e := by unfold ngetX; rw [h]
theorem tm {a m : Int} (h0 : 0 ≤ a) (hm : 0 < m) : 0 ≤ Int.tmod a m ∧ Int.tmod a m < m := ⟨Int.tmod_nonneg m h0, Int.tmod_lt_of_pos a hm⟩
theorem pick {l : List PV} (hl : ∀ i, i < 6 → ∃ w : Int, 0 ≤ w ∧ w ≤ 2 ∧ l[i]? = some (iP w)) {r : Int} (h0 : 0 ≤ r) (h6 : r < 6) : ∃ w : Int, 0 ≤ w ∧ w ≤ 2 ∧ ∀ K : PV → R, lgetX l r K = K (iP w) := by
  obtain ⟨w, h1, h2, h3⟩ := hl r.toNat (by omega)
  exact ⟨w, h1, h2, fun K => lgetX_of h0 h3⟩
theorem pickA : ∀ i, i < 6 → ∃ w : Int, 0 ≤ w ∧ w ≤ 2 ∧ ([.int .i64 0, .int .i64 0, .int .i64 1, .int .i64 0, .int .i64 1, .int .i64 2] : List PV)[i]? = some (iP w) := by
  intro i hi
  have : i = 0 ∨ i = 1 ∨ i = 2 ∨ i = 3 ∨ i = 4 ∨ i = 5 := by omega
  rcases this with rfl | rfl | rfl | rfl | rfl | rfl
  · exact ⟨0, by omega, by omega, rfl⟩
  · exact ⟨0, by omega, by omega, rfl⟩
  · exact ⟨1, by omega, by omega, rfl⟩
  · exact ⟨0, by omega, by omega, rfl⟩
  · exact ⟨1, by omega, by omega, rfl⟩
  · exact ⟨2, by omega, by omega, rfl⟩
theorem pickB : ∀ i, i < 6 → ∃ w : Int, 0 ≤ w ∧ w ≤ 2 ∧ ([.int .i64 0, .int .i64 1, .int .i64 0, .int .i64 0, .int .i64 1, .int .i64 2] : List PV)[i]? = some (iP w) := by
  intro i hi
  have : i = 0 ∨ i = 1 ∨ i = 2 ∨ i = 3 ∨ i = 4 ∨ i = 5 := by omega
  rcases this with rfl | rfl | rfl | rfl | rfl | rfl
  · exact ⟨0, by omega, by omega, rfl⟩
  · exact ⟨1, by omega, by omega, rfl⟩
  · exact ⟨0, by omega, by omega, rfl⟩
  · exact ⟨0, by omega, by omega, rfl⟩
  · exact ⟨1, by omega, by omega, rfl⟩
  · exact ⟨2, by omega, by omega, rfl⟩
theorem ArcOk.add {P : Nat} {l : List (Nat × Int)} (h : ArcOk P l) {x : Nat} (hx : x < P) (hl : ∀ a, a ∈ l → a.1 < x) {w : Int} (h1 : 1 ≤ w) (h2 : w ≤ 2) : ArcOk P (l ++ [(x, w)]) where
  b a ha := by
    rcases List.mem_append.1 ha with h3 | h3
    · exact h.b a h3
    · rw [List.mem_singleton.1 h3]; exact ⟨hx, h1, h2⟩
  s := by
    rw [List.pairwise_append]
    refine ⟨h.s, List.pairwise_singleton _ _, fun a ha b hb => ?_⟩
    rw [List.mem_singleton.1 hb]; exact hl a ha
theorem add_lt {l : List (Nat × Int)} {x : Nat} (hl : ∀ a, a ∈ l → a.1 < x) (w : Int) : ∀ a, a ∈ l ++ [(x, w)] → a.1 < x + 1 := fun a ha => by
  rcases List.mem_append.1 ha with h3 | h3
  · have := hl a h3; omega
  · rw [List.mem_singleton.1 h3]; exact Nat.lt_succ_self x
def NtR (r : R) : Prop := ∃ n : Nt, NtOk n ∧ r = some (A0 (vN n), [])
section
variable {q : Sh.V S1} (hq : U8 q)
include hq
theorem make12 {P : Nat} (hP1 : 1 ≤ P) (hP : P ≤ 5) {f : Nat → Int} {ts : List Tr} {k : Nat} (hk : k < 5) {ev : Int}
    (hnext : ∀ t : Tr, t.ev = ev → ArcOk P t.inn → ArcOk P t.out → NtR (g6_L8 q ((k + 1 : Nat) : Int) (mv P f, (ts ++ [t]).map pT, ()))) (hts : ts.length ≤ 5) :
    ∀ p, p ≤ P → ∀ a b : List (Nat × Int), ArcOk P a → ArcOk P b → (∀ x, x ∈ a → x.1 < p) → (∀ x, x ∈ b → x.1 < p) → NtR (g6_L12 q (ev, a.map pA, b.map pA, ()) (k : Int) (mv P f, ts.map pT, ()) (p : Int)) := by
  refine up_to (fun a b ha hb _ _ => ?_) fun p hp ih a b ha hb hap hbp => ?_
  · rw [g6_L12_eq, mv_length, decF (by omega), bsel_false, List.length_map, decT (show ts.length + 1 ≤ LIM by unfold LIM; omega), chk_true, wrs (by omega)]
    have := hnext ⟨ev, a, b⟩ rfl ha hb
    rw [List.map_append] at this
    exact this
  · have la := ha.len
    have lb := hb.len
    obtain ⟨v, v0, v1, hv⟩ := hq ((12 + k * 5) + p * 1) (by omega)
    have t1 := tm v0 (show (0 : Int) < 6 by omega)
    obtain ⟨w, w0, w2, hw⟩ := pick pickA t1.1 t1.2
    have d0 : 0 ≤ Int.tdiv v 6 := Int.tdiv_nonneg v0 (by omega)
    have d1 : Int.tdiv v 6 ≤ 255 := by
      have : (Int.tdiv v 6).natAbs ≤ v.natAbs := by rw [Int.natAbs_tdiv]; exact Nat.div_le_self _ _
      omega
    have t2 := tm d0 (show (0 : Int) < 6 by omega)
    obtain ⟨y, y0, y2, hy⟩ := pick pickB t2.1 t2.2
    have fin : ∀ a : List (Nat × Int), ArcOk P a → (∀ x, x ∈ a → x.1 < p + 1) → NtR (g6_J17 (k : Int) y q (mv P f, ts.map pT, ()) (ev, a.map pA, b.map pA, ()) (p : Int)) := fun a ha hap => by
      rw [g6_J17_eq, wrs (by omega)]
      by_cases hy0 : 0 < y
      · rw [decT hy0, bsel_true, List.length_map, decT (show b.length + 1 ≤ LIM by unfold LIM; omega), chk_true]
        have := ih a (b ++ [(p, y)]) ha (hb.add hp hbp (by omega) y2) hap (add_lt hbp y)
        rw [List.map_append] at this
        exact this
      · rw [decF hy0, bsel_false]
        exact ih a b ha hb hap fun x hx => by have := hbp x hx; omega
    rw [g6_L12_eq, mv_length, decT (by omega), bsel_true, decT (show (0 : Int) ≤ (k : Int) by omega), decT (show (k : Int) < (5 : Int) by omega), Bool.and_self, chk_true, decT (show (0 : Int) ≤ (p : Int) by omega), decT (show (p : Int) < (5 : Int) by omega), Bool.and_self, chk_true, Int.toNat_natCast, Int.toNat_natCast, nget_of hv, vI_mk, hw, vI_mk, chk_true, chk_true, nget_of hv, vI_mk, IntWalk.u8_in _ ⟨d0, d1⟩, hy, vI_mk]
    by_cases hw0 : 0 < w
    · rw [decT hw0, bsel_true, List.length_map, decT (show a.length + 1 ≤ LIM by unfold LIM; omega), chk_true]
      have := fin (a ++ [(p, w)]) (ha.add hp hap (by omega) w2) (add_lt hap w)
      rw [List.map_append] at this
      exact this
    · rw [decF hw0, bsel_false]
      exact fin a ha fun x hx => by have := hap x hx; omega
theorem make8 {P : Nat} (hP1 : 1 ≤ P) (hP : P ≤ 5) {f : Nat → Int} (hf : ∀ p, p < P → 0 ≤ f p ∧ f p ≤ 65536) : ∀ k, k ≤ 5 → ∀ ts : List Tr, ts.length ≤ k → (∀ t, t ∈ ts → TrOk P t) → NtR (g6_L8 q (k : Int) (mv P f, ts.map pT, ())) := by
  have done : ∀ k, k ≤ 5 → ∀ ts : List Tr, ts.length ≤ k → (∀ t, t ∈ ts → TrOk P t) → NtR (some (A0 (mv P f, ts.map pT, ()), [])) := fun k hk ts hl ht =>
    ⟨⟨P, f, ts⟩, ⟨hP1, hP, hf, by show ts.length ≤ 5; omega, ht⟩, rfl⟩
  refine up_to (fun ts hl ht => ?_) fun k hk ih ts hl ht => ?_
  · rw [g6_L8_eq, show decide (((5 : Nat) : Int) < 5) = false from rfl, bsel_false]
    cases decide (((5 : Nat) : Int) < IntKind.i64.wrap (Int.tmod q.2.1 6))
    · exact done 5 (by omega) ts hl ht
    · exact done 5 (by omega) ts hl ht
  · rw [g6_L8_eq, decT (show (k : Int) < 5 by omega), bsel_true]
    cases decide ((k : Int) < IntKind.i64.wrap (Int.tmod q.2.1 6))
    · exact done k (by omega) ts hl ht
    · obtain ⟨v, v0, v1, hv⟩ := hq (7 + k * 1) (by omega)
      have t1 := tm v0 (show (0 : Int) < 5 by omega)
      rw [bsel_true, decT (show (0 : Int) ≤ (k : Int) by omega), Bool.and_self, chk_true, Int.toNat_natCast, nget_of hv, vI_mk, wrap64 (by omega) (by omega)]
      refine make12 hq hP1 hP hk (fun t h1 h2 h3 => ih (ts ++ [t]) (by simp; omega) fun t' ht' => ?_) (by omega) 0 (by omega) [] [] ⟨fun a h => by simp at h, List.Pairwise.nil⟩ ⟨fun a h => by simp at h, List.Pairwise.nil⟩ (fun a h => by simp at h) (fun a h => by simp at h)
      rcases List.mem_append.1 ht' with h4 | h4
      · exact ht t' h4
      · rw [List.mem_singleton.1 h4]; exact ⟨by omega, by omega, h2, h3⟩
theorem c6 : NtR (SS.CC 6 [A1 q] []) := by
  obtain ⟨v, v0, v1, hv⟩ := hq 0 (by omega)
  have ev : q.1 = v := by
    have : some (PV.int .u8 q.1) = some (PV.int .u8 v) := hv
    injection this with h1; injection h1
  have t1 := tm v0 (show (0 : Int) < 5 by omega)
  obtain ⟨P, hP⟩ := Int.eq_ofNat_of_zero_le (show 0 ≤ 1 + Int.tmod v 5 by omega)
  have e1 : IntKind.i64.wrap (1 + IntKind.i64.wrap (Int.tmod q.1 5)) = (P : Int) := by rw [ev, wrap64 (n := Int.tmod v 5) (by omega) (by omega), wrap64 (by omega) (by omega), hP]
  have h0 : (1 : Int) ≤ (P : Int) := by have : 1 + Int.tmod v 5 = (P : Int) := hP; omega
  have h5 : (P : Int) ≤ 5 := by have : 1 + Int.tmod v 5 = (P : Int) := hP; omega
  have key : ∀ i, i ≤ P → ∀ f : Nat → Int, (∀ p, p < i → 0 ≤ f p ∧ f p ≤ 65536) → NtR (g6_L4 q (i : Int) (mv i f)) := by
    refine up_to (fun f hf => ?_) fun i hi ih f hf => ?_
    · rw [g6_L4_eq, e1, decF (by omega), bsel_false]
      exact make8 hq (by omega) (by omega) hf 0 (by omega) [] (by simp) fun t h => by simp at h
    · obtain ⟨u, u0, u1, hu⟩ := hq (2 + i * 1) (by omega)
      have t2 := tm u0 (show (0 : Int) < 4 by omega)
      rw [g6_L4_eq, e1, decT (by omega), bsel_true, decT (show (0 : Int) ≤ (i : Int) by omega), decT (show (i : Int) < (5 : Int) by omega), Bool.and_self, chk_true, Int.toNat_natCast, nget_of hu, vI_mk, mv_length, decT (show i + 1 ≤ LIM by unfold LIM; omega), chk_true, wrap64 (n := Int.tmod u 4) (by omega) (by omega), wrs (by omega)]
      have := ih (fun p => if p < i then f p else Int.tmod u 4) fun p hp => by
        split
        · exact hf p (by assumption)
        · omega
      rw [show mv i f ++ [.int .i64 (Int.tmod u 4)] = mv i f ++ mv 1 (fun _ => Int.tmod u 4) from rfl, mv_app]
      exact this
  rw [g6_eq]
  exact key 0 (by omega) (fun _ => 0) fun p hp => by omega
end
end Go.Proofs.YtkkgfoknknehfaaDoor.W
