/-
  The contracts below the functions of chapter 16: Scan, Join, Repeat, Builder.
-/
import Derived.Test.YtoajpgclgdhhlaaC16o
namespace Go.Proofs.Ytoajpgclgdhhlaa
set_option linter.unusedVariables false
set_option linter.unusedSimpArgs false
set_option linter.unnecessarySimpa false
set_option linter.unusedSectionVars false
open Go.RowKit Go.Shelf
def strsOf : List PV → Option (List ByteArray)
  | [] => some []
  | .str s :: l => (strsOf l).map (s :: ·)
  | _ => none
theorem strsOf_spec : ∀ {es : List PV} {xs : List ByteArray}, strsOf es = some xs → es = xs.map .str
  | [], xs, h => by simp [strsOf] at h; subst h; rfl
  | p :: es, xs, h => by
    unfold strsOf at h
    split at h
    · rename_i e; cases e
    · rename_i s l e
      injection e with e1 e2; subst e1; subst e2
      cases hl : strsOf es with
      | none => simp [hl] at h
      | some ys => simp [hl] at h; subst h; rw [strsOf_spec hl]; rfl
    · cases h
def joinB (xs : List ByteArray) (sep : ByteArray) : List UInt8 := Lib.join (xs.map (·.data.toList)) sep.data.toList
def CS : Cal := fun g args h => match g, args, h with
  | 12, [.str s], h => some (scanP (scanT s.data.toList), h)
  | 33, [.sl _ 1 es, .str sep], h => (match strsOf es with
    | some xs => (match Nat.ble (joinB xs sep).length 140737488355328 && Nat.ble xs.length 140737488355328 with
      | true => some (.str ⟨(joinB xs sep).toArray⟩, h)
      | false => none)
    | none => none)
  | 39, [.str s, .int .i64 n], h => (match decide (0 ≤ n) && (Nat.ble n.toNat 9223372036854775807 && Nat.ble (s.size * n.toNat) 140737488355328) with
    | true => some (.str ⟨(Lib.repeatL s.data.toList n.toNat).toArray⟩, h)
    | false => none)
  | 40, [.ptr 0 0], [some [.bld 68 0, .slT l]] => some (.str ⟨l.toArray⟩, [some [.bld 68 0, .sl false 1 (bytesPV l)]])
  | 67, [.ptr 0 0], [some [.bld 68 0, .slT l]] => some (.tuple [], [some [.bld 68 0, .slT l]])
  | _, _, _ => none
theorem flats_tok (ts : List Tok) : PV.flats (ts.map tokP) = true := by
  induction ts with
  | nil => rfl
  | cons t ts ih => rw [List.map_cons]; simp [PV.flats, PV.flat, tokP, ih]
theorem flat_scanP (r : ScanR) : (scanP r).flat = true := by
  cases r with
  | ok ts => simp [scanP, PV.flat, PV.flats, flats_tok]
  | err a b e => rfl
theorem flats_strs (xs : List ByteArray) : PV.flats (xs.map .str) = true := by
  induction xs with
  | nil => rfl
  | cons x xs ih => rw [List.map_cons]; simp [PV.flats, PV.flat, ih]
theorem vals_two {M : Mem} {B : Blk} {p q : PV} {vals : Array Value} (hv : Reps M B [p, q] vals.toList) : ∃ u v, vals = #[u, v] ∧ Rep M B p u ∧ Rep M B q v := by
  obtain ⟨u1, us, e1, r1, hv⟩ := reps_cons.1 hv
  obtain ⟨u2, us, rfl, r2, hv⟩ := reps_cons.1 hv
  rw [reps_nil] at hv; subst hv
  exact ⟨u1, u2, by rw [← Array.toList_inj]; exact e1, r1, r2⟩
theorem ev_join (o : Bool) (xs : List ByteArray) (sep : ByteArray) (h1 : (joinB xs sep).length ≤ 140737488355328) (h2 : xs.length ≤ 140737488355328) : Ev Try.prog 33 [.sl o 1 (xs.map .str), .str sep] [] (.str ⟨(joinB xs sep).toArray⟩) [] := by
  refine ev_below (v := .string ⟨(joinB xs sep).toArray⟩) (by kernel_rfl) (fun _ _ => rep_str.2 rfl) rfl fun M w vals hmem hv => ?_
  obtain ⟨u, v, rfl, hu, hv⟩ := vals_two hv
  rw [rep_str.1 hv]
  obtain ⟨A, cap, rfl, hle, _, _, hA⟩ := rep_sl.1 hu
  rw [List.length_map] at hle ⊢
  by_cases hx : xs = []
  · subst hx
    refine (join_none A cap sep w).mono ?_
    rintro e w' ⟨rfl, rfl⟩
    exact ⟨rfl, Below.refl _ _⟩
  · obtain ⟨b, off, rfl, hloc⟩ := hA (by simpa using hx)
    have hcells : ∀ (j : Nat) x, xs[j]? = some x → w.cell? ⟨b, off + j, none⟩ = some (.string x) := fun j x hj => by
      have hl := locs_get hloc (show (xs.map PV.str)[j]? = some (.str x) by rw [List.getElem?_map, hj]; rfl)
      obtain ⟨u, hu1, hu2⟩ := (loc_of_one rfl).1 hl
      rw [Nat.mul_one] at hu1
      rw [rep_str.1 hu2] at hu1
      exact (hmem _ _ _ hu1).1
    have hbk : b < w.heap.size := by
      match xs, hx with
      | x :: r, _ => exact World.block_lt_of_cell? _ _ (hcells 0 x rfl)
    exact join_run b off cap xs sep w hcells hbk h2 hle h1
theorem ev_repeat (s : ByteArray) (n : Int) (h0 : 0 ≤ n) (h1 : n.toNat ≤ 9223372036854775807) (h2 : s.size * n.toNat ≤ 140737488355328) : Ev Try.prog 39 [.str s, .int .i64 n] [] (.str ⟨(Lib.repeatL s.data.toList n.toNat).toArray⟩) [] := by
  refine ev_below (v := .string ⟨(Lib.repeatL s.data.toList n.toNat).toArray⟩) (by kernel_rfl) (fun _ _ => rep_str.2 rfl) rfl fun M w vals hmem hv => ?_
  obtain ⟨u, v, rfl, hu, hv⟩ := vals_two hv
  rw [rep_str.1 hu, rep_int.1 hv]
  have := repeat_run s n.toNat w h1 h2
  rwa [Int.toNat_of_nonneg h0] at this
theorem CS_ok : calOK Try.prog CS := by
  intro g args h r h' hv
  unfold CS at hv
  split at hv
  · rename_i h s
    cases hv
    have := ev12 s.data.toList
    have e : bs s.data.toList = s := by cases s; simp [bs]
    rw [e] at this
    exact this.frame' (flat_scanP _) rfl _
  · rename_i h o es sep
    split at hv
    · rename_i xs hx
      split at hv
      · rename_i hc
        cases hv
        simp only [Bool.and_eq_true] at hc
        rw [strsOf_spec hx]
        exact (ev_join o xs sep (Nat.le_of_ble_eq_true hc.1) (Nat.le_of_ble_eq_true hc.2)).frame' rfl (by simp [PV.flats, PV.flat, flats_strs]) _
      · cases hv
    · cases hv
  · rename_i h s n
    split at hv
    · rename_i hc
      cases hv
      simp only [Bool.and_eq_true, decide_eq_true_eq] at hc
      exact (ev_repeat s n hc.1 (Nat.le_of_ble_eq_true hc.2.1) (Nat.le_of_ble_eq_true hc.2.2)).frame' rfl rfl _
    · cases hv
  · rename_i l
    cases hv
    exact ev_String l
  · rename_i l
    cases hv
    exact ev_copyCheck l
  · cases hv
end Go.Proofs.Ytoajpgclgdhhlaa
