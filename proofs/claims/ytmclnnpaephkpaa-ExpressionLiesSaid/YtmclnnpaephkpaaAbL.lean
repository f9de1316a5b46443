/-
  Append.
-/
import Derived.Test.YtmclnnpaephkpaaAbK
namespace Go.Proofs.Ytmclnnpaephkpaa
set_option linter.unusedVariables false
set_option linter.unusedSimpArgs false
set_option linter.unnecessarySimpa false
set_option linter.unusedSectionVars false
open Go.RowKit

section
variable {n : Nat} {out : Nat → Nat} {M : Mem} {B : Blk} {σ : ASt} {a : Act} {w : World}
theorem append_run_grow {P : Program} {t ty e : TypeId} {i : TypeInfo} {z : Value} (ht : P.underlying t = some (.slice e)) (hi : P.info? e = some i) (hz : i.zero = some z) {base A' : Option Addr} {sLen sCap m c : Nat} {olds news : List Value}
    (hfo : (Builtin.firstCells i.size sLen (.slice base sLen sCap)).run P w.drew = .ok olds.toArray w.drew) (hfn : (Builtin.firstCells i.size m (.slice A' m c)).run P w.drew = .ok news.toArray w.drew)
    (hg : sCap < sLen + m) (h63 : sLen + m ≤ LIM) (hb : i.bytes ≤ 1024) :
    (Builtin.append_ #[t, t] ty #[.slice base sLen sCap, .slice A' m c]).run P w =
      .ok (.slice (some ⟨w.heap.size, 0, none⟩) (sLen + m) (grownCap w (sLen + m) sCap e)) (w.drew.alloc (.cells (olds.toArray ++ news.toArray ++ Builtin.zeroCells z.cells (grownCap w (sLen + m) sCap e - (sLen + m))) e)) := by
  unfold LIM at h63
  have hn : ¬ (sLen + m ≤ sCap) := by omega
  have h63' : ¬ (9223372036854775807 < ((sLen : Int) + (m : Int))) := by omega
  have hb2 : (sLen + m) * i.bytes ≤ 140737488355328 := Nat.le_trans (Nat.mul_le_mul h63 hb) (by decide)
  have h48' : ¬ (281474976710656 < Builtin.nextslicecap (sLen + m) sCap * i.bytes) := by have := growslice_fits hg hb2; omega
  simp [Builtin.append_, run_underlying ht, sizeOf, typeInfo, zeroValue, hi, hz, Builtin.lenOf, hn, h63', h48', Question.forced, hfo, hfn, newRow, grownCap]
  congr 2
  apply Array.ext'
  simp [List.append_assoc]
theorem append_run_room {P : Program} {t ty e : TypeId} {i : TypeInfo} (ht : P.underlying t = some (.slice e)) (hi : P.info? e = some i) {g off : Nat} {A' : Option Addr} {sLen sCap m c : Nat} {news : List Value}
    (hfn : (Builtin.firstCells i.size m (.slice A' m c)).run P w = .ok news.toArray w) {cur : Array Value} {ty' : TypeId} (hh : w.heap[g]? = some (.cells cur ty' (0, 0))) (hroom : sLen + m ≤ sCap) (h1 : ∀ u, u ∈ news → u.oneCell' = true) (hfit : off + sLen * i.size + news.length ≤ cur.size) :
    (Builtin.append_ #[t, t] ty #[.slice (some ⟨g, off, none⟩) sLen sCap, .slice A' m c]).run P w =
      .ok (.slice (some ⟨g, off, none⟩) (sLen + m) sCap) (w.setRow g (cur.toList.take (off + sLen * i.size) ++ news ++ cur.toList.drop (off + sLen * i.size + news.length)).toArray) := by
  have hst := run_storeCells_at P g (off + sLen * i.size) ty' news 0 cur w hh (by simpa using hfit) h1
  simp only [Nat.add_zero] at hst
  simp [Builtin.append_, run_underlying ht, sizeOf, typeInfo, hi, Builtin.lenOf, hroom, hfn, add_lit, hst]
theorem append_run_none {P : Program} {t ty e : TypeId} {i : TypeInfo} (ht : P.underlying t = some (.slice e)) (hi : P.info? e = some i) {A' : Option Addr} {c : Nat} {news : List Value}
    (hfn : (Builtin.firstCells i.size 0 (.slice A' 0 c)).run P w = .ok news.toArray w) :
    (Builtin.append_ #[t, t] ty #[.slice none 0 0, .slice A' 0 c]).run P w = .ok (.slice none 0 0) w := by
  simp [Builtin.append_, run_underlying ht, sizeOf, typeInfo, hi, Builtin.lenOf, hfn]
theorem fp_drew {t : Array Value} {b : Nat} : fp B σ t w.drew b = fp B σ t w b := by
  simp only [fp]; rw [ownH_congr (w' := w.drew) (w := w) b (fun _ _ _ _ _ => rfl)]
/-- The cells of a slice as the model reads them. -/
theorem first_cells {P : Program} {sz : Nat} {es : List PV} {A : Option Addr} {cap : Nat} (hs : ∀ e, e ∈ es → e.size = sz) (hle : es.length ≤ cap) (hA : es ≠ [] → ∃ b off, A = some ⟨b, off, none⟩ ∧ Locs M [] sz es b off) (hmem : ∀ (b o : Nat) (v : Value), M b o = some v → w.cell? ⟨b, o, none⟩ = some v ∧ v.oneCell' = true) :
    ∃ vs : List Value, vs.length = es.length * sz ∧ (∀ w', (∀ (b o : Nat) (v : Value), M b o = some v → w'.cell? ⟨b, o, none⟩ = some v) → (Builtin.firstCells sz es.length (.slice A es.length cap)).run P w' = .ok vs.toArray w') ∧ (∀ u, u ∈ vs → u.oneCell' = true) ∧
      ∀ (M' : Mem) (b' o' : Nat), (∀ (b o : Nat) (v : Value), M b o = some v → M' b o = some v) → (∀ (j : Nat) v, vs[j]? = some v → M' b' (o' + j) = some v) → Locs M' [] sz es b' o' := by
  cases A with
  | none =>
    have : es = [] := by
      rcases es with _ | ⟨e, es⟩
      · rfl
      · obtain ⟨_, _, h, _⟩ := hA (by simp); cases h
    subst this
    exact ⟨[], by simp, fun w' _ => by simp [Builtin.firstCells], by simp, fun _ _ _ _ _ => locs_nil⟩
  | some x =>
    by_cases hcc : es = []
    · subst hcc
      exact ⟨[], by simp, fun w' _ => run_firstCells_some (P := P) w' sz 0 x 0 cap [] (by simp) (fun j v hv => by simp at hv), by simp, fun _ _ _ _ _ => locs_nil⟩
    obtain ⟨b, off, hx, hl⟩ := hA hcc
    cases hx
    obtain ⟨vs, h1, h2⟩ := locs_vals hl hs
    refine ⟨vs, h1, fun w' hw => run_firstCells_some (P := P) w' sz es.length ⟨b, off, none⟩ es.length cap vs h1 (fun j v hv => by rw [add_lit]; exact hw _ _ _ (h2 j v hv)), fun u hu => ?_, fun M' b' o' hM hc => locs_copy hl hs hM fun j hj v hv => ?_⟩
    · obtain ⟨j, hj⟩ := List.mem_iff_getElem?.1 hu
      exact (hmem _ _ _ (h2 j u hj)).2
    · have hj' : vs[j]? = some (vs[j]'(by omega)) := List.getElem?_eq_getElem (by omega)
      have := h2 j _ hj'
      rw [hv] at this; injection this with this
      exact hc j v (by rw [hj', this])
theorem append_sound (hI : Inv n M B out σ a.tmps w) {P : Program} {t ty : TypeId} {I : TI} (hT : elemTI P t = some I) {s x : Operand} {sz sz' : Nat} {es es' : List PV} {o ow : Bool} (how : ow = true ∨ sz = 0) (hs : σ.ev s = some (.sl ow sz es)) (hx : σ.rd x = some (.sl o sz' es'))
    (hpos : 0 < I.size) (hby : I.bytes ≤ 1024) (hsz0 : sz = I.size ∨ sz = 0) (hsz0' : sz' = I.size ∨ sz' = 0) (hlim : es.length + es'.length ≤ LIM) :
    ∃ v w' M' B', (Builtin.append_ #[t, t] ty #[a.eval s, a.eval x]).run P w = .ok v w' ∧ Pre n out M B σ a.tmps w M' B' (σ.clr s) w' (.sl true I.size (es ++ es')) v := by
  obtain ⟨e, i, z, d, hu, hTI⟩ := elem_spec hT
  have hsi := hTI.size
  have hbi := hTI.bytes
  obtain ⟨hr, hTl⟩ := hI.ev hs
  have hr' := (hI.rd x _ hx).1
  obtain ⟨c1, c2, c3⟩ := hI.clrO hs
  obtain ⟨A, cap, e1, hle, hss, hzz, hA⟩ := rep_sl.1 hr
  obtain ⟨A', cap', e2, hle', hss', hz', hA'⟩ := rep_sl.1 hr'
  have hTl3 : (A = none → cap = 0) ∧ (sz = 0 → A = none) ∧ ∀ a, A = some a → ∃ cs ty, w.heap[a.block]? = some (.cells cs ty (0, 0)) ∧ a.off + cap * sz ≤ cs.size ∧ (∀ o, a.off + es.length * sz ≤ o → M a.block o = none) ∧ a.spot = none := by
    by_cases h0 : sz = 0
    · obtain ⟨_, h6, h7⟩ := hzz h0
      exact ⟨fun _ => h7, fun _ => h6, fun a ha => by rw [h6] at ha; cases ha⟩
    · have := how.resolve_right h0
      subst this
      exact hTl sz es _ _ _ rfl e1
  obtain ⟨hn, hz, hTl⟩ := hTl3
  have hsz : sz = I.size ∨ es = [] := hsz0.imp id fun h => (hzz h).1
  have hsz' : sz' = I.size ∨ es' = [] := hsz0'.imp id fun h => (hz' h).1
  have hs1 : ∀ p, p ∈ es → p.size = I.size := fun p hp => by
    rcases hsz with h | h
    · rw [← h]; exact hss p hp
    · rw [h] at hp; simp at hp
  have hs2 : ∀ p, p ∈ es' → p.size = I.size := fun p hp => by
    rcases hsz' with h | h
    · rw [← h]; exact hss' p hp
    · rw [h] at hp; simp at hp
  have hA1 : es ≠ [] → ∃ b off, A = some ⟨b, off, none⟩ ∧ Locs M [] I.size es b off := fun hc => by
    obtain ⟨b, off, h1, h2⟩ := hA hc
    refine ⟨b, off, h1, ?_⟩
    rcases hsz with h | h
    · rw [← h]; exact h2
    · rw [h]; exact locs_nil
  have hA2 : es' ≠ [] → ∃ b off, A' = some ⟨b, off, none⟩ ∧ Locs M [] I.size es' b off := fun hc => by
    obtain ⟨b, off, h1, h2⟩ := hA' hc
    refine ⟨b, off, h1, ?_⟩
    rcases hsz' with h | h
    · rw [← h]; exact h2
    · rw [h]; exact locs_nil
  obtain ⟨olds, o1, o2, o3, o4⟩ := first_cells (P := P) hs1 hle hA1 hI.mem
  obtain ⟨news, n1, n2, n3, n4⟩ := first_cells (P := P) hs2 hle' hA2 hI.mem
  have hsall : ∀ p, p ∈ es ++ es' → p.size = I.size := fun p hp => by
    rcases List.mem_append.1 hp with h | h
    · exact hs1 p h
    · exact hs2 p h
  rw [e1, e2]
  by_cases hroom : es.length + es'.length ≤ cap
  · cases A with
    | none =>
      have hc0 := hn rfl
      have h1 : es = [] := List.eq_nil_of_length_eq_zero (by omega)
      have h2 : es' = [] := List.eq_nil_of_length_eq_zero (by omega)
      subst h1; subst h2; subst hc0
      refine ⟨.slice none 0 0, w, M, B, append_run_none hu hTI.info (by rw [← hsi]; exact n2 w fun b o v h => (hI.mem b o v h).1), c1, MLe.refl _ _, Fr.refl _ _ _, fun b _ => ?_, rep_sl.2 ⟨none, 0, rfl, Nat.le_refl _, by simp, fun _ => ⟨rfl, rfl, rfl⟩, by simp⟩, fun _ _ _ _ _ _ e => by cases e; exact ⟨fun _ => rfl, fun _ => rfl, fun _ h => by cases h⟩, fun b => ?_, fun b _ => by simp [ownV]⟩
      · have := c2 b; simp [ownV] at *; omega
      · have := c2 b; have := hI.cnt b; simp [ownV] at *; omega
    | some ad =>
      obtain ⟨g, off, rfl, hloc⟩ : ∃ b off, ad = ⟨b, off, none⟩ ∧ Locs M [] I.size es b off := by
        by_cases hc : es = []
        · obtain ⟨_, _, _, _, _, hsp⟩ := hTl ad rfl
          exact ⟨ad.block, ad.off, by cases ad; simp at hsp; subst hsp; rfl, by rw [hc]; exact locs_nil⟩
        · obtain ⟨b, off, h1, h2⟩ := hA1 hc
          cases h1
          exact ⟨b, off, rfl, h2⟩
      obtain ⟨cur, ty', t1, t2, t3, _⟩ := hTl _ rfl
      simp only at t1 t2 t3
      have how1 : ow = true := how.resolve_right fun h => by have := hz h; cases this
      subst how1
      have hown : ∀ b, ownV (.sl true sz es) (a.eval s) b = if g = b then 1 else 0 := fun b => by rw [e1]; simp [ownV, PV.own]
      have hg1 : fp B σ a.tmps w g = 1 ∧ out g = 0 ∧ fp B (σ.clr s) a.tmps w g = 0 := by
        have := hI.cnt g; have := c2 g; rw [hown, if_pos rfl] at this; omega
      have hfree : ∀ o, off + es.length * I.size ≤ o → M g o = none := fun o ho => t3 o (by
        rcases hsz with h | h
        · rw [h]; exact ho
        · rw [h] at ho ⊢; simpa using ho)
      have hszI : sz = I.size := hsz0.resolve_right fun h => by have := hz h; cases this
      rw [hszI] at t2
      have hfit : off + es.length * I.size + news.length ≤ cur.size := by
        rw [n1]
        have : (es.length + es'.length) * I.size ≤ cap * I.size := Nat.mul_le_mul_right _ hroom
        rw [Nat.add_mul] at this; omega
      have hrun := append_run_room (P := P) (ty := ty) (w := w) hu hTI.info (g := g) (off := off) (A' := A') (sLen := es.length) (sCap := cap) (m := es'.length) (c := cap') (news := news) (by rw [← hsi]; exact n2 w fun b o v h => (hI.mem b o v h).1) t1 hroom n3 (by rw [← hsi]; exact hfit)
      rw [← hsi] at hrun
      generalize hk : off + es.length * I.size = k at *
      have hlt : g < w.heap.size := (Array.getElem?_eq_some_iff.1 t1).1
      generalize hcur : (cur.toList.take k ++ news ++ cur.toList.drop (k + news.length)).toArray = cur' at *
      have hsz2 : cur'.size = cur.size := by rw [← hcur]; simp; omega
      have hnew : ∀ j, j < news.length → cur'[k + j]? = news[j]? := fun j hj => by
        rw [← hcur]
        rw [List.getElem?_toArray]
        have hl : (cur.toList.take k).length = k := by simp; omega
        rw [List.append_assoc, List.getElem?_append_right (by omega), hl, Nat.add_sub_cancel_left, List.getElem?_append_left hj]
      have hold : ∀ o, o < k → cur'[o]? = cur[o]? := fun o ho => by
        rw [← hcur]
        rw [List.getElem?_toArray]
        have hl : (cur.toList.take k).length = k := by simp; omega
        rw [List.append_assoc, List.getElem?_append_left (by omega), List.getElem?_take, if_pos ho]; simp
      have hM : ∀ (b o : Nat) (v : Value), M b o = some v → (if b = g ∧ k ≤ o ∧ o < k + news.length then news[o - k]? else M b o) = some v := fun b o v h => by
        by_cases hc : b = g ∧ k ≤ o ∧ o < k + news.length
        · obtain ⟨rfl, h1, _⟩ := hc
          rw [hfree o h1] at h; cases h
        · rw [if_neg hc]; exact h
      have hheap : (w.setRow g cur').heap[g]? = some (.cells cur' ty' (0, 0)) := setRow_heap w g cur _ ty' (0, 0) t1
      have hoth : ∀ b, b ≠ g → (w.setRow g cur').heap[b]? = w.heap[b]? := fun b hb => setRow_other w g b _ hb
      have hle2 : MLe M (fun b o => if b = g ∧ k ≤ o ∧ o < k + news.length then news[o - k]? else M b o) B B := ⟨hM, fun _ _ h => h⟩
      obtain ⟨f1, f2⟩ := c1.ext (w' := w.setRow g cur') hle2 (fun b o v h => by
        by_cases hb : b = g
        · subst hb
          have hcell : (w.setRow b cur').cell? ⟨b, o, none⟩ = cur'[o]? := by simp [World.cell?, hheap]
          rw [hcell]
          by_cases hc : k ≤ o ∧ o < k + news.length
          · rw [if_pos ⟨rfl, hc⟩] at h
            have := hnew (o - k) (by omega)
            rw [show k + (o - k) = o by omega] at this
            exact ⟨by rw [this, h], n3 v (List.mem_of_getElem? h)⟩
          · rw [if_neg (fun x => hc x.2)] at h
            have hm := hI.mem b o v h
            have : o < k := by
              rcases Nat.lt_or_ge o k with h' | h'
              · exact h'
              · rw [hfree o h'] at h; cases h
            have h3 : w.cell? ⟨b, o, none⟩ = cur[o]? := by simp [World.cell?, t1]
            exact ⟨by rw [hold o this, ← h3]; exact hm.1, hm.2⟩
        · rw [if_neg (fun x => hb x.1)] at h
          have hm := hI.mem b o v h
          exact ⟨(World.cell?_of_block (w := w) (a := ⟨b, o, none⟩) (hoth b hb)).trans hm.1, hm.2⟩) (fun b hb => by
        have hbg : b ≠ g := fun e => by subst e; omega
        exact ⟨hoth b hbg, fun o => by rw [if_neg (fun x => hbg x.1)]⟩) (by simp [World.setRow])
      have hcnt2 : ∀ b, ownV (.sl true I.size (es ++ es')) (.slice (some ⟨g, off, none⟩) (es.length + es'.length) cap) b = if g = b then 1 else 0 := fun b => by simp [ownV, PV.own]
      refine ⟨_, _, _, _, hrun, f1, hle2, ⟨rfl, rfl, rfl, by simp [World.setRow], fun b hb h0 => ?_⟩, fun b hb => ?_, rep_sl.2 ⟨_, cap, by rw [List.length_append], by rw [List.length_append]; exact hroom, hsall, fun h => absurd h (by omega), fun _ => ?_⟩, ?_, fun b => ?_, fun b hb => ?_⟩
      · have hbg : b ≠ g := fun e => by subst e; omega
        exact ⟨hoth b hbg, fun o => by rw [if_neg (fun x => hbg x.1)]⟩
      · rw [f2, hcnt2]; have := c2 b; rw [hown] at this; omega
      · refine ⟨g, off, rfl, locs_append (hloc.mono hle2.none) ?_⟩
        rw [hk]
        refine n4 _ _ _ hM fun j v hv => ?_
        have hj := (List.getElem?_eq_some_iff.1 hv).1
        rw [if_pos ⟨rfl, by omega, by omega⟩, Nat.add_sub_cancel_left]; exact hv
      · intro sz2 es2 x2 n2' cap2 e3 e4
        cases e3; cases e4
        refine ⟨by simp, fun h => absurd h (by omega), fun x hx => ?_⟩
        cases hx
        refine ⟨cur', ty', hheap, by rw [hsz2]; exact t2, fun o ho => ?_, rfl⟩
        simp only at ho
        have hkk : off + (es ++ es').length * I.size = k + news.length := by rw [List.length_append, Nat.add_mul, n1]; omega
        show (if g = g ∧ k ≤ o ∧ o < k + news.length then news[o - k]? else M g o) = none
        rw [if_neg (fun x => by omega)]
        exact hfree o (by omega)
      · rw [f2, hcnt2]; have := c2 b; rw [hown] at this; have := hI.cnt b; omega
      · rw [hcnt2, if_neg]
        simp [World.setRow] at hb
        omega
  · have hrun := append_run_grow (w := w) (ty := ty) hu hTI.info hTI.zero (olds := olds) (news := news) (by rw [← hsi]; exact o2 w.drew fun b o v h => (hI.mem b o v h).1) (by rw [← hsi]; exact n2 w.drew fun b o v h => (hI.mem b o v h).1) (by omega) hlim (by rw [← hbi]; exact hby)
    obtain ⟨d1, d2⟩ := c1.drew
    have hge := grownCap_ge w (es.length + es'.length) cap e
    have hlen : (es ++ es').length * I.size = olds.length + news.length := by rw [o1, n1, List.length_append, Nat.add_mul]
    have htake : ((olds.toArray ++ news.toArray ++ Builtin.zeroCells z.cells (grownCap w (es.length + es'.length) cap e - (es.length + es'.length))).toList.take ((es ++ es').length * I.size)) = olds ++ news := by
      rw [hlen]
      simp only [Array.toList_append]
      rw [← List.length_append]; exact List.take_left
    have hone : ∀ v, v ∈ (olds.toArray ++ news.toArray ++ Builtin.zeroCells z.cells (grownCap w (es.length + es'.length) cap e - (es.length + es'.length))) → v.oneCell' = true := fun v hv => by
      rcases Array.mem_append.1 hv with hv | hv
      · rcases Array.mem_append.1 hv with hv | hv
        · exact o3 v (by simpa using hv)
        · exact n3 v (by simpa using hv)
      · unfold Builtin.zeroCells at hv
        obtain ⟨j, hj, rfl⟩ := Array.mem_map.1 hv
        by_cases h0 : z.cells.size = 0
        · rw [h0] at hj; simp at hj
        · have : j % z.cells.size < z.cells.size := Nat.mod_lt _ (by omega)
          rw [getElem!_pos z.cells _ this]
          exact hTI.one _ (Array.getElem_mem _)
    have hmem := d1.mem
    have hpre := Pre.newRow (a := a) d1 (ty := e) (sz := I.size) (k := (es ++ es').length * I.size) (es := es ++ es') (cap := grownCap w (es.length + es'.length) cap e) hpos hone rfl (by rw [List.length_append]; exact hge) (by
      simp only [Array.size_append, List.size_toArray, size_zeroCells, hTI.zsize, ← hsi, o1, n1]
      rw [← Nat.add_mul, ← Nat.add_mul]
      exact Nat.mul_le_mul_right _ (by omega)) hsall (by
      rw [htake]
      have hle := laid_le d1 (olds ++ news)
      refine locs_append (o4 _ _ _ hle.mem fun j v hv => ?_) (n4 _ _ _ hle.mem fun j v hv => ?_)
      · show laid M w.drew.heap.size (olds ++ news) w.drew.heap.size (0 + j) = some v
        rw [laid, if_pos rfl, Nat.zero_add, List.getElem?_append_left (List.getElem?_eq_some_iff.1 hv).1]; exact hv
      · show laid M w.drew.heap.size (olds ++ news) w.drew.heap.size (0 + es.length * I.size + j) = some v
        rw [laid, if_pos rfl, Nat.zero_add, ← o1, List.getElem?_append_right (Nat.le_add_right _ _), Nat.add_sub_cancel_left]; exact hv)
    rw [List.length_append] at hpre
    refine ⟨_, _, _, _, hrun, hpre.inv, hpre.le, ?_, fun b hb => ?_, hpre.rep, hpre.tl, hpre.cnt, hpre.new⟩
    · refine (Fr.trans (f := fp B σ a.tmps w) (g := fp B (σ.clr s) a.tmps w.drew) (M' := M) (w' := w.drew) ⟨rfl, rfl, rfl, Nat.le_refl _, fun _ _ _ => ⟨rfl, fun _ => rfl⟩⟩ hpre.fr fun b hb h0 => ?_)
      have := c2 b
      rw [fp_drew]
      omega
    · have h1 := hpre.own b hb
      have h2 := c2 b
      rw [fp_drew] at h1
      exact Nat.le_trans h1 (by omega)
end
end Go.Proofs.Ytmclnnpaephkpaa
