/-
  strings.Builder: copyCheck and String, as contracts.
-/
import Derived.Test.YtoajpgclgdhhlaaC16n
namespace Go.Proofs
open Go.Shelf
def Try.lays169_ren:Go.Shelf.Ren:=⟨fun|169=>40|n=>n,fun|70=>66|72=>68|37=>23|127=>97|n=>n,id⟩
theorem Try.lays169 : Lays.n169 Try.prog Try.lays169_ren:=by constructor<;>first|kernel_rfl|(intro w;kernel_rfl)
end Go.Proofs
namespace Go.Proofs.Ytoajpgclgdhhlaa
set_option linter.unusedVariables false
set_option linter.unusedSimpArgs false
set_option linter.unnecessarySimpa false
set_option linter.unusedSectionVars false
open Go.RowKit Go.Shelf
theorem bx169 : Builder.Extra Try.prog Try.lays169_ren where
  sizeBuilder := by kernel_rfl
  liesBuilder := by kernel_rfl
  t5 := Try.underlying5
  a5 := Try.isAgg5
  z5 := Try.sizeOf5
  v5 := Try.zeroValue5
  infoByte := by kernel_rfl
  cellsByte := by kernel_rfl
  sizeByte := by kernel_rfl
  neB5 := by decide
theorem post_same {h : Objs} {B : Blk} {out : Nat → Nat} {M : Mem} {w : World} {r : PV} {v : Value} (hmem : memOK M w) (hheap : HeapOK M B w h) (hcnt : ∀ b, ownH w h B b + out b ≤ 1) (hnew : ∀ b, w.heap.size ≤ b → ownH w h B b + out b = 0)
    (hr : Rep M B r v) (ho : r.own = false) : Post h B out M w r h v M B w :=
  ⟨hmem, MLe.refl _ _, Fr.refl _ _ _, hheap, hr, tl_no ho, fun b _ => by rw [ownV_no ho]; exact Nat.le_refl _, fun b => by rw [ownV_no ho]; exact hcnt b, fun b hb => by rw [ownV_no ho]; exact hnew b hb⟩
theorem one_blk {M : Mem} {B : Blk} {w : World} {o : Option (List PV)} (hheap : HeapOK M B w [o]) : ∃ c, B = [c] := by
  have := hheap.1
  match B, this with
  | [c], _ => exact ⟨c, rfl⟩
theorem vals_one {M : Mem} {B : Blk} {p : PV} {vals : Array Value} (hv : Reps M B [p] vals.toList) : ∃ u, vals = #[u] ∧ Rep M B p u := by
  obtain ⟨u1, us, e1, r1, hv⟩ := reps_cons.1 hv
  rw [reps_nil] at hv; subst hv
  exact ⟨u1, by rw [← Array.toList_inj]; exact e1, r1⟩
theorem ev_copyCheck (l : List UInt8) : Ev Try.prog 67 [.ptr 0 0] [some [.bld 68 0, .slT l]] (.tuple []) [some [.bld 68 0, .slT l]] := by
  refine ⟨by kernel_rfl, fun out M B w vals hmem hheap hcnt hnew hv => ?_⟩
  obtain ⟨c, rfl⟩ := one_blk hheap
  obtain ⟨u, rfl, hu⟩ := vals_one hv
  obtain ⟨c', hc', rfl⟩ := rep_ptr.1 hu
  simp at hc'; subst hc'
  obtain ⟨c', hc', vs, ty, o1, ⟨o2, o2'⟩, o3, o4, o5⟩ := hheap.2 0 _ rfl
  simp at hc'; subst hc'
  obtain ⟨v0, hv0, hr0, _, _⟩ := o4 0 _ rfl
  obtain ⟨c2, hc2, hc3, hp⟩ := rep_bld.1 hr0
  simp at hc2; subst hc2
  have hcell : w.cell? ⟨c.1, 0, none⟩ = some v0 := by simp [World.cell?, o1, hv0]
  have hs2 : vs.size = 2 := by rw [o2, hc3]
  have ht2 : ty = 68 := by rw [o2', hc3]
  rcases hp with rfl | rfl
  · refine (cc_fresh c.1 w hcell (by simp [World.shape?, o1, hs2, ht2]) (by simp [World.frozen?, o1])).mono ?_
    rintro e w' ⟨rfl, rfl⟩
    have hI : Inv 0 M [c] out ⟨slots0 0 [], [some [.bld 68 0, .slT l]]⟩ (#[] ++ Array.replicate (0 - 0) undef) w := start_inv (vals := #[]) (args := []) (by simp) hmem hheap hcnt hnew (reps_nil.2 rfl)
    have hfp := fun (t : Array Value) (w : World) b => slots0_fp (B := [c]) (args := []) (h := [some [.bld 68 0, .slT l]]) t w b
    obtain ⟨g1, g2, g3, _, _⟩ := hI.setCell (i := 0) (j := 0) (p := .bld 68 0) (v := .pointer (some ⟨c.1, 0, none⟩)) rfl rfl (by simp) (rep_bld.2 ⟨c, rfl, hc3, .inr rfl⟩) (tl_no rfl) rfl (fun b => by rw [hfp, ownV_no rfl]; exact hcnt b) (fun b _ => ownV_no rfl _ _)
    have k1 : Inv 0 M [c] out ⟨slots0 0 [], [some [.bld 68 0, .slT l]]⟩ (#[] ++ Array.replicate (0 - 0) undef) (w.setCell ⟨c.1, 0, none⟩ (.pointer (some ⟨c.1, 0, none⟩))) := g1
    have k2 : ∀ b, fp [c] ⟨slots0 0 [], [some [.bld 68 0, .slT l]]⟩ (#[] ++ Array.replicate (0 - 0) undef) (w.setCell ⟨c.1, 0, none⟩ (.pointer (some ⟨c.1, 0, none⟩))) b ≤ fp [c] ⟨slots0 0 [], [some [.bld 68 0, .slT l]]⟩ (#[] ++ Array.replicate (0 - 0) undef) w b + ownV (.bld 68 0) (.pointer (some ⟨c.1, 0, none⟩)) b := g2
    refine ⟨_, M, [c], rfl, ⟨k1.mem, MLe.refl _ _, g3.mono fun b hb h0 => by rw [hfp]; exact h0, k1.heap, rep_tuple.2 ⟨_, rfl, reps_nil.2 rfl⟩, tl_no rfl, fun b hb => ?_, fun b => ?_, fun b hb => ?_⟩⟩
    · have h := k2 b
      rw [hfp, hfp, ownV_no rfl] at h
      rw [ownV_no rfl]; exact h
    · have h := k1.cnt b
      rw [hfp] at h
      rw [ownV_no rfl]; exact h
    · have h := k1.new b hb
      rw [hfp] at h
      rw [ownV_no rfl]; exact h
  · refine (cc_used c.1 w hcell).mono ?_
    rintro e w' ⟨rfl, rfl⟩
    exact ⟨_, M, [c], rfl, post_same hmem hheap hcnt hnew (rep_tuple.2 ⟨_, rfl, reps_nil.2 rfl⟩) rfl⟩
/-! ### String -/
theorem str_post {c : Nat × Nat × TypeId} {out : Nat → Nat} {M : Mem} {w w2 : World} {l : List UInt8} {v : Value} {vs : Array Value} (hmem : memOK M w) (hheap : HeapOK M [c] w [some [.bld 68 0, .slT l]]) (hcnt : ∀ b, ownH w [some [.bld 68 0, .slT l]] [c] b + out b ≤ 1) (hnew : ∀ b, w.heap.size ≤ b → ownH w [some [.bld 68 0, .slT l]] [c] b + out b = 0)
    {ty : TypeId} (hrow : w.heap[c.1]? = some (.cells vs ty (0, 0))) (hv : vs[1]? = some v) (h1 : ∀ x, x < w.heap.size → ownV (.slT l) v x = 0 → w2.heap[x]? = w.heap[x]?) (h2 : ∀ b o u, w.cell? ⟨b, o, none⟩ = some u → w2.cell? ⟨b, o, none⟩ = some u)
    (hos : w2.os = w.os) (htape : w2.tape = w.tape) (hout : w2.output = w.output) (hsize : w.heap.size ≤ w2.heap.size) :
    Post [some [.bld 68 0, .slT l]] [c] out M w (.str ⟨l.toArray⟩) [some [.bld 68 0, .sl false 1 (bytesPV l)]] (.string ⟨l.toArray⟩) M [c] w2 := by
  obtain ⟨c', hc', vs', ty', o1, o2, o3, o4, o5⟩ := hheap.2 0 _ rfl
  simp at hc'; subst hc'
  rw [hrow] at o1
  injection o1 with o1; injection o1 with e1 e2 _; subst e1; subst e2
  have hcl : cellsAt w c.1 = vs.toList := by simp [cellsAt, hrow]
  have hvl : vs.toList[1]? = some v := by simpa using hv
  have hown : ∀ b, (if c.1 = b then 1 else 0) + ownV (.slT l) v b ≤ ownH w [some [.bld 68 0, .slT l]] [c] b := fun b => by
    have g1 := ownH_get (w := w) (h := [some [.bld 68 0, .slT l]]) (B := [c]) (i := 0) b rfl rfl
    have g2 := ownC_get (cs := [.bld 68 0, .slT l]) (vs := vs.toList) (j := 1) b rfl hvl
    rw [hcl] at g1; omega
  have hc0 : ownV (.slT l) v c.1 = 0 := by
    have := hown c.1; have := hcnt c.1
    rw [if_pos rfl] at *; omega
  have hlt : c.1 < w.heap.size := (Array.getElem?_eq_some_iff.1 hrow).1
  have hrow2 : w2.heap[c.1]? = some (.cells vs ty (0, 0)) := (h1 c.1 hlt hc0).trans hrow
  have hown2 : ∀ b, ownH w2 [some [.bld 68 0, .sl false 1 (bytesPV l)]] [c] b ≤ if c.1 = b then 1 else 0 := fun b => by
    simp only [ownH]
    have : ∀ vl, ownC [.bld 68 0, .sl false 1 (bytesPV l)] vl b = 0 := fun vl => by
      match vl with
      | [] => rfl
      | [x] => simp [ownC, ownV, PV.own]
      | x :: y :: r => simp [ownC, ownV, PV.own]
    rw [this]; omega
  refine ⟨fun b o u e => ?_, MLe.refl _ _, ⟨hos, htape, hout, hsize, fun b hb h0 => ⟨h1 b hb (by have := hown b; omega), fun _ => rfl⟩⟩, ⟨rfl, fun i cs hi => ?_⟩, rep_str.2 rfl, tl_no rfl, fun b hb => ?_, fun b => ?_, fun b hb => ?_⟩
  · obtain ⟨g1, g2⟩ := hmem b o u e
    exact ⟨h2 b o u g1, g2⟩
  · match i, hi with
    | 0, hi =>
      simp at hi; subst hi
      refine ⟨c, rfl, vs, ty, hrow2, o2, by simpa using o3, fun j p hj => ?_, o5⟩
      match j, hj with
      | 0, hj =>
        simp at hj; subst hj
        obtain ⟨u, a1, a2, a3, a4⟩ := o4 0 _ rfl
        exact ⟨u, a1, a2, tl_no rfl, a4⟩
      | 1, hj =>
        simp at hj; subst hj
        obtain ⟨u, a1, a2, a3, a4⟩ := o4 1 _ rfl
        exact ⟨u, a1, rep_slT_un.2 a2, tl_no rfl, a4⟩
      | j + 2, hj => simp at hj
    | i + 1, hi => simp at hi
  · rw [ownV_no rfl]; have := hown2 b; have := hown b; omega
  · rw [ownV_no rfl]; have := hown2 b; have := hown b; have := hcnt b; omega
  · rw [ownV_no rfl]; have := hown2 b; have := hown b; have := hnew b (Nat.le_trans hsize hb); omega
section
variable {P : Program} {ρ : Ren}
set_option maxHeartbeats 2000000 in
set_option maxRecDepth 100000 in
theorem str_run (L : Lays.n169 P ρ) (X : Builder.Extra P ρ) (b n cap : Nat) (A q : Option Addr) (p : Value) (r : ByteArray) (w w2 : World) (hbk : w.heap[b]? = some (.cells #[p, .slice A n cap] (ρ.t 72) (0, 0)))
    (hSD : (Builtin.unsafeSliceData_ #[(ρ.t 37)] (ρ.t 127) #[.slice A n cap]).run P w.drew = .ok (.pointer q) w.drew)
    (hUS : (Builtin.unsafeString_ #[(ρ.t 127), (ρ.t 3)] (ρ.t 9) #[.pointer q, .int .i64 n]).run P w.drew = .ok (.string r) w2) :
    Calls P (ρ.f 169) #[.pointer (some ⟨b, 0, none⟩)] w fun e w' => e = .returned (.string r) ∧ w' = w2 := by
  have c1 : w.drew.cell? ⟨b, 1, none⟩ = some (.slice A n cap) := by
    have : w.drew.heap[b]? = some (.cells #[p, .slice A n cap] (ρ.t 72) (0, 0)) := hbk
    rw [Lib.cell_of_heap this]; rfl
  have mixed := L.mixed
  have t72 := L.t72; have a72 := L.a72; have z72 := L.z72; have v72 := L.v72; have u72 := run_underlying L.t72
  have t70 := L.t70; have a70 := L.a70; have z70 := L.z70; have v70 := L.v70; have u70 := run_underlying L.t70
  have t37 := L.t37; have a37 := L.a37; have z37 := L.z37; have v37 := L.v37; have u37 := run_underlying L.t37
  have t127 := L.t127; have a127 := L.a127; have z127 := L.z127; have v127 := L.v127; have u127 := run_underlying L.t127
  have t3 := L.t3; have a3 := L.a3; have z3 := L.z3; have v3 := L.v3; have u3 := run_underlying L.t3
  have t9 := L.t9; have a9 := L.a9; have z9 := L.z9; have v9 := L.v9; have u9 := run_underlying L.t9
  have t5 := X.t5; have a5 := X.a5; have z5 := X.z5; have v5 := X.v5; have u5 := run_underlying X.t5
  go_enter L.f169, Body.n169_ntmps ρ
  go_wp2
  go_region_o
  all_goals (go_wp2; go_ret; exact ⟨rfl, rfl⟩)
set_option maxHeartbeats 2000000 in
set_option maxRecDepth 100000 in
theorem str_run0 (L : Lays.n169 P ρ) (X : Builder.Extra P ρ) (b g : Nat) (cur : Array Value) (p : Value) (w : World) (hbk : w.heap[b]? = some (.cells #[p, .slice (some ⟨g, 0, none⟩) 0 0] (ρ.t 72) (0, 0))) (hg : w.heap[g]? = some (.cells cur (ρ.t 5) (0, 0))) :
    Calls P (ρ.f 169) #[.pointer (some ⟨b, 0, none⟩)] w fun e w' => e = .returned (.string ⟨#[]⟩) ∧ ∃ u : World, u.heap = w.heap ∧ u.os = w.os ∧ u.tape = w.tape ∧ u.output = w.output ∧ w' = u.alloc (.view ⟨g, 0, none⟩ (ρ.t 5)) := by
  have hUS := Any.unsafeString_none L X
  have hlt : b < w.heap.size := (Array.getElem?_eq_some_iff.1 hbk).1
  have c1 : w.drew.cell? ⟨b, 1, none⟩ = some (.slice (some ⟨g, 0, none⟩) 0 0) := by
    have : w.drew.heap[b]? = some (.cells #[p, .slice (some ⟨g, 0, none⟩) 0 0] (ρ.t 72) (0, 0)) := hbk
    rw [Lib.cell_of_heap this]; rfl
  have hSD : (Builtin.unsafeSliceData_ #[(ρ.t 37)] (ρ.t 127) #[.slice (some ⟨g, 0, none⟩) 0 0]).run P w.drew = .ok (.pointer (some ⟨w.drew.heap.size, 0, none⟩)) (w.drew.alloc (.view ⟨g, 0, none⟩ (ρ.t 5))) :=
    Lib.run_unsafeSliceData_zero w.drew _ _ (ρ.t 5) L.t127 ⟨g, 0, none⟩ 0 ((ρ.t 5), cur.size) (by have hg' : w.drew.heap[g]? = some (.cells cur (ρ.t 5) (0, 0)) := hg; simp [World.shape?, hg'])
  have c2 : (w.drew.alloc (.view ⟨g, 0, none⟩ (ρ.t 5))).cell? ⟨b, 1, none⟩ = some (.slice (some ⟨g, 0, none⟩) 0 0) := by
    have : (w.drew.alloc (.view ⟨g, 0, none⟩ (ρ.t 5))).heap[b]? = _ := (Lib.alloc_old w.drew _ b hlt).trans hbk
    rw [Lib.cell_of_heap this]; rfl
  have c3 : (w.alloc (.view ⟨g, 0, none⟩ (ρ.t 5))).drew.cell? ⟨b, 1, none⟩ = some (.slice (some ⟨g, 0, none⟩) 0 0) := c2
  have c0 : w.cell? ⟨b, 1, none⟩ = some (.slice (some ⟨g, 0, none⟩) 0 0) := c1
  have mixed := L.mixed
  have t72 := L.t72; have a72 := L.a72; have z72 := L.z72; have v72 := L.v72; have u72 := run_underlying L.t72
  have t70 := L.t70; have a70 := L.a70; have z70 := L.z70; have v70 := L.v70; have u70 := run_underlying L.t70
  have t37 := L.t37; have a37 := L.a37; have z37 := L.z37; have v37 := L.v37; have u37 := run_underlying L.t37
  have t127 := L.t127; have a127 := L.a127; have z127 := L.z127; have v127 := L.v127; have u127 := run_underlying L.t127
  have t3 := L.t3; have a3 := L.a3; have z3 := L.z3; have v3 := L.v3; have u3 := run_underlying L.t3
  have t9 := L.t9; have a9 := L.a9; have z9 := L.z9; have v9 := L.v9; have u9 := run_underlying L.t9
  have t5 := X.t5; have a5 := X.a5; have z5 := X.z5; have v5 := X.v5; have u5 := run_underlying X.t5
  go_enter L.f169, Body.n169_ntmps ρ
  go_wp2
  go_region_o
  all_goals (go_wp2; go_ret; exact ⟨rfl, w.drew, rfl, rfl, rfl, rfl, rfl⟩)
end
theorem freeze_other {w : World} {b g n : Nat} (hb : b ≠ g) : (w.drew.freeze ⟨g, 0, none⟩ n).heap[b]? = w.heap[b]? := by
  unfold World.freeze
  split
  · rfl
  · show (w.heap.modify g _)[b]? = _
    rw [Array.getElem?_modify, if_neg (Ne.symm hb)]
theorem freeze_at {w : World} {g n : Nat} {cs : Array Value} {ty : TypeId} (h : w.heap[g]? = some (.cells cs ty (0, 0))) (hn : n ≠ 0) : (w.drew.freeze ⟨g, 0, none⟩ n).heap[g]? = some (.cells cs ty (0, 0 + n)) := by
  unfold World.freeze
  rw [if_neg hn]
  show (w.heap.modify g _)[g]? = _
  rw [Array.getElem?_modify, if_pos rfl, h]
  rfl
theorem ev_String (l : List UInt8) : Ev Try.prog 40 [.ptr 0 0] [some [.bld 68 0, .slT l]] (.str ⟨l.toArray⟩) [some [.bld 68 0, .sl false 1 (bytesPV l)]] := by
  refine ⟨by kernel_rfl, fun out M B w vals hmem hheap hcnt hnew hv => ?_⟩
  obtain ⟨c, rfl⟩ := one_blk hheap
  obtain ⟨u, rfl, hu⟩ := vals_one hv
  obtain ⟨c', hc', rfl⟩ := rep_ptr.1 hu
  simp at hc'; subst hc'
  obtain ⟨c', hc', vs, ty, o1, ⟨o2, o2'⟩, o3, o4, o5⟩ := hheap.2 0 _ rfl
  simp at hc'; subst hc'
  obtain ⟨v0, hv0, hr0, _, _⟩ := o4 0 _ rfl
  obtain ⟨c2, hc2, hc3, _⟩ := rep_bld.1 hr0
  simp at hc2; subst hc2
  obtain ⟨v1, hv1, hr1, ht1, _⟩ := o4 1 _ rfl
  have hs2 : vs.size = 2 := by rw [o2, hc3]
  have ht2 : ty = 68 := by rw [o2', hc3]
  subst ht2
  have hvs : vs = #[v0, v1] := by
    apply Array.ext'
    match hl : vs.toList, (show vs.toList.length = 2 by simpa using hs2) with
    | [x, y], _ =>
      have e0 : vs.toList[0]? = some v0 := by simpa using hv0
      have e1 : vs.toList[1]? = some v1 := by simpa using hv1
      rw [hl] at e0 e1
      simp at e0 e1
      rw [e0, e1]
  have hrow : w.heap[c.1]? = some (.cells #[v0, v1] 68 (0, 0)) := by rw [← hvs]; exact o1
  obtain ⟨A, cap, rfl, hle, hA⟩ := rep_slT.1 hr1
  obtain ⟨t1, t2⟩ := ht1.t l A _ cap rfl rfl
  have hkeep : ∀ b o u, w.cell? ⟨b, o, none⟩ = some u → w.drew.cell? ⟨b, o, none⟩ = some u := fun _ _ _ h => h
  have hpost := fun (w2 : World) h1 h2 a1 a2 a3 a4 => str_post (w2 := w2) hmem hheap hcnt hnew o1 hv1 h1 h2 a1 a2 a3 a4
  cases A with
  | none =>
    have hc0 := t1 rfl
    subst hc0
    have hl : l = [] := List.eq_nil_of_length_eq_zero (by omega)
    subst hl
    refine (str_run Try.lays169 bx169 c.1 0 0 none none v0 ⟨#[]⟩ w w.drew hrow rfl (Any.unsafeString_none Try.lays169 bx169 _ _)).mono ?_
    rintro e w' ⟨rfl, rfl⟩
    exact ⟨_, M, [c], rfl, hpost w.drew (fun _ _ _ => rfl) hkeep rfl rfl rfl (Nat.le_refl _)⟩
  | some a =>
    obtain ⟨cs, g1, g2, g3, g4, g5, g6⟩ := t2 a rfl
    obtain ⟨g, off, sp⟩ := a
    simp only at g1 g4 g5 g6
    subst g5; subst g6
    by_cases hl : l = []
    · subst hl
      by_cases hc0 : cap = 0
      · subst hc0
        refine (str_run0 Try.lays169 bx169 c.1 g cs v0 w hrow g1).mono ?_
        rintro e w' ⟨rfl, x, x1, x2, x3, x4, rfl⟩
        have hold : ∀ b, b < w.heap.size → (x.alloc (.view ⟨g, 0, none⟩ (Try.lays169_ren.t 5))).heap[b]? = w.heap[b]? := fun b hb => by
          rw [← x1]; exact Below.heap_alloc _ _ b (by rw [x1]; exact hb)
        refine ⟨_, M, [c], rfl, hpost _ (fun b hb _ => hold b hb) (fun b o u h => ?_) x2 x3 x4 (by rw [World.size_alloc, x1]; omega)⟩
        exact (World.cell?_of_block (hold b (World.block_lt_of_cell? _ _ h))).trans h
      · refine (str_run Try.lays169 bx169 c.1 0 cap (some ⟨g, 0, none⟩) (some ⟨g, 0, none⟩) v0 ⟨#[]⟩ w w.drew hrow (Lib.run_unsafeSliceData_row _ _ _ _ _ _ hc0) (Any.unsafeString_none Try.lays169 bx169 _ _)).mono ?_
        rintro e w' ⟨rfl, rfl⟩
        exact ⟨_, M, [c], rfl, hpost w.drew (fun _ _ _ => rfl) hkeep rfl rfl rfl (Nat.le_refl _)⟩
    · have hlen : l.length ≠ 0 := fun h => hl (List.eq_nil_of_length_eq_zero h)
      obtain ⟨b', off', e1, hcells⟩ := hA hl
      cases e1
      refine (str_run Try.lays169 bx169 c.1 l.length cap (some ⟨g, 0, none⟩) (some ⟨g, 0, none⟩) v0 ⟨l.toArray⟩ w (w.drew.freeze ⟨g, 0, none⟩ l.length) hrow (Lib.run_unsafeSliceData_row _ _ _ _ _ _ (by omega)) ?_).mono ?_
      · refine Lib.run_unsafeString_row w.drew _ _ _ (Try.lays169_ren.t 5) (Lays.n169.t127 Try.lays169) (Builder.Extra.cellsByte bx169) g cs.size (by have hg' : w.drew.heap[g]? = some (.cells cs byteT (0, 0)) := g1; simp [World.shape?, hg']; rfl) l hl (by omega) (by unfold maxLen at g3; omega) ?_
        intro j x hx
        have h := (hmem g (0 + j) _ (hcells j x hx)).1
        rw [Nat.zero_add] at h
        have e : (⟨g, 0, none⟩ : Addr).add j = ⟨g, j, none⟩ := by
          unfold Addr.add
          split
          · rename_i h0; rw [h0]
          · rw [Nat.zero_add]
        rw [e]; exact h
      · rintro e w' ⟨rfl, rfl⟩
        refine ⟨_, M, [c], rfl, hpost _ (fun b hb h0 => ?_) (fun b o u h => ?_) ?_ ?_ ?_ ?_⟩
        · have hbg : b ≠ g := fun e => by subst e; simp [ownV, PV.own] at h0
          exact freeze_other hbg
        · by_cases hbg : b = g
          · subst hbg
            unfold World.cell? at h ⊢
            simp only [freeze_at g1 hlen]
            simp only [g1] at h; exact h
          · exact (World.cell?_of_block (freeze_other hbg)).trans h
        · unfold World.freeze; rw [if_neg hlen]; rfl
        · unfold World.freeze; rw [if_neg hlen]; rfl
        · unfold World.freeze; rw [if_neg hlen]; rfl
        · unfold World.freeze; rw [if_neg hlen]
          show w.heap.size ≤ (w.heap.modify g _).size
          simp
end Go.Proofs.Ytoajpgclgdhhlaa
