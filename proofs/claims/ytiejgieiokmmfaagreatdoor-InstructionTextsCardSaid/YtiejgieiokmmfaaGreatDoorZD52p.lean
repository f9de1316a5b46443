/-
  The contract of strings.Split at a separator of one byte.
-/
import Derived.Test.YtiejgieiokmmfaaGreatDoorZD52b
import Derived.Test.YtiejgieiokmmfaaGreatDoorD52i
import Derived.Test.YtiejgieiokmmfaaGreatDoorAbU
import Derived.Shelf.Strings.Split
namespace Go.Proofs
open Go.Shelf
def Tryz.lays146_ren:Go.Shelf.Ren:=⟨fun|146=>29|221=>62|268=>74|138=>75|143=>76|195=>84|197=>85|218=>86|219=>87|260=>96|217=>97|225=>98|224=>99|267=>100|266=>103|314=>104|n=>n,fun|31=>70|105=>124|46=>112|119=>139|139=>142|138=>141|146=>128|51=>127|n=>n,fun|3=>2|4=>3|n=>n⟩
theorem Tryz.lays146 : Lays.n146 Tryz.prog Tryz.lays146_ren:=by constructor<;>first|kernel_rfl|(intro w;kernel_rfl)
end Go.Proofs
namespace Go.Proofs.YtiejgieiokmmfaaGreatDoor
set_option linter.unusedVariables false
set_option linter.unusedSimpArgs false
set_option linter.unnecessarySimpa false
set_option linter.unusedSectionVars false
open Go.RowKit Go.Shelf
/-- A list of bytes cut at every byte c. -/
def splitC (c : UInt8) : List UInt8 → List (List UInt8)
  | [] => [[]]
  | x :: l => if x = c then [] :: splitC c l else (x :: (splitC c l).headD []) :: (splitC c l).tail
theorem splitC_ne (c : UInt8) (l : List UInt8) : splitC c l ≠ [] := by
  cases l with
  | nil => simp [splitC]
  | cons x l => unfold splitC; split <;> simp
theorem splitC_cons (c : UInt8) (l : List UInt8) : ∃ w ws, splitC c l = w :: ws := by
  cases h : splitC c l with
  | nil => exact absurd h (splitC_ne c l)
  | cons w ws => exact ⟨w, ws, rfl⟩
theorem ixb_eq (c : UInt8) (l : List UInt8) : Lib.indexByte (c :: l) c = 0 := by simp [Lib.indexByte]
theorem ixb_no {b c : UInt8} {l : List UInt8} (h : b ≠ c) (hi : Lib.indexByte l c = -1) : Lib.indexByte (b :: l) c = -1 := by simp [Lib.indexByte, h, hi]
theorem ixb_at {b c : UInt8} {l : List UInt8} (h : b ≠ c) (hi : Lib.indexByte l c ≠ -1) : Lib.indexByte (b :: l) c = Lib.indexByte l c + 1 := by simp [Lib.indexByte, h, hi]
theorem splitK_zero (sep : List UInt8) (l : List UInt8) : Lib.splitK sep 0 0 l = [l] := rfl
theorem splitK_no {c : UInt8} {k : Nat} {l : List UInt8} (h : Lib.indexByte l c = -1) : Lib.splitK [c] 0 (k + 1) l = [l] := by rw [Lib.splitK, Lib.index_one, h]; rfl
theorem splitK_at {c : UInt8} {k i : Nat} {l : List UInt8} (h : Lib.indexByte l c = i) : Lib.splitK [c] 0 (k + 1) l = l.take i :: Lib.splitK [c] 0 k (l.drop (i + 1)) := by
  rw [Lib.splitK, Lib.index_one, h]
  have : ¬ ((i : Int) == -1) = true := fun e => by have := beq_iff_eq.1 e; omega
  rw [if_neg this]
  simp
theorem splitK_one (c : UInt8) : ∀ l : List UInt8, Lib.splitK [c] 0 (l.count c) l = splitC c l
  | [] => rfl
  | b :: l => by
    have ih := splitK_one c l
    by_cases h : b = c
    · subst h
      rw [List.count_cons_self, splitK_at (i := 0) (ixb_eq b l), splitC, if_pos rfl, ← ih]
      rfl
    · rw [List.count_cons_of_ne (by simpa using h), splitC, if_neg h]
      cases hk : l.count c with
      | zero =>
        rw [hk, splitK_zero] at ih
        rw [← ih]; rfl
      | succ k =>
        rw [hk] at ih
        by_cases hi : Lib.indexByte l c = -1
        · rw [splitK_no hi] at ih
          rw [splitK_no (ixb_no h hi), ← ih]; rfl
        · have h0 := Lib.indexByte_ge l c
          obtain ⟨i, he⟩ : ∃ i : Nat, Lib.indexByte l c = i := ⟨(Lib.indexByte l c).toNat, by omega⟩
          rw [splitK_at he] at ih
          rw [splitK_at (i := i + 1) (by rw [ixb_at h hi, he]; rfl), ← ih]
          rfl
theorem splitB_one (c : UInt8) (s : ByteArray) : Lib.splitB ⟨#[c]⟩ 0 (s.data.toList.count c) s = (splitC c s.data.toList).map fun l => ⟨l.toArray⟩ := by
  have h := Lib.splitB_data ⟨#[c]⟩ 0 (s.data.toList.count c) s
  rw [show (ByteArray.mk #[c]).data.toList = [c] from rfl, splitK_one] at h
  rw [← h, List.map_map]
  have : ∀ x : ByteArray, ((fun l : List UInt8 => (⟨l.toArray⟩ : ByteArray)) ∘ fun x => x.data.toList) x = x := fun x => by simp
  rw [show ((fun l : List UInt8 => (⟨l.toArray⟩ : ByteArray)) ∘ fun x => x.data.toList) = id from funext this, List.map_id]
section
variable {P : Program} {ρ : Ren}
set_option maxHeartbeats 1000000 in
theorem split_run (L : Lays.n146 P ρ) (hi9 : (P.info? (ρ.t 9)).map (fun i => (i.zero, i.size, i.bytes)) = some (some (.string ByteArray.empty), 1, 16)) (s : ByteArray) (c : UInt8) (n : Nat) (hc : Lib.countB s ⟨#[c]⟩ = n) (w : World) (hs : s.size < 4294967281) :
    Calls P (ρ.f 146) #[.string s, .string ⟨#[c]⟩] w fun e w' =>
      e = .returned (.slice (some ⟨w.heap.size, 0, none⟩) (n + 1) (n + 1)) ∧ w' = w.alloc (.cells ((Lib.splitB ⟨#[c]⟩ 0 (n) s).map Value.string).toArray (ρ.t 9)) := by
  have h1 : 1 ≤ (ByteArray.mk #[c]).size := Nat.le_refl 1
  have hle := Lib.countB_le ⟨#[c]⟩ h1 s.size s (Nat.le_refl _)
  have hlen := Lib.splitB_all ⟨#[c]⟩ h1 0 _ s rfl
  have k := Any.strings_genSplit_core { L with } hi9 s ⟨#[c]⟩ 0 (-1) (Lib.countB s ⟨#[c]⟩ + 1) w hs h1 (Nat.zero_le _)
    (fun x d _ => (Any.strings_Index_one { L with } x c _).mono fun e w' ⟨h1, h2⟩ => ⟨by rw [h1, ← Lib.index_one], h2⟩)
    ((Any.strings_Count_one { L with } s c w).mono fun e w' ⟨h1, h2⟩ => ⟨by rw [h1]; show _ = Ending.returned (Value.int .i64 ((Lib.count s.data.toList [c] : Nat) : Int)); rw [Lib.count_one]; rfl, h2⟩) (by decide) (by decide) (by rw [if_pos (by decide)]; omega)
  rw [Nat.add_sub_cancel, hlen] at k
  have e2 : Lib.cellsOf (Lib.splitB ⟨#[c]⟩ 0 (Lib.countB s ⟨#[c]⟩) s) (Lib.countB s ⟨#[c]⟩ + 1) = ((Lib.splitB ⟨#[c]⟩ 0 (Lib.countB s ⟨#[c]⟩) s).map Value.string).toArray := by rw [← hlen]; exact Lib.cellsOf_full _
  rw [e2, hc] at k
  have t3 := L.t3; have t9 := L.t9; have t31 := L.t31
  have a3 := L.a3; have a9 := L.a9; have a31 := L.a31
  have z3 := L.z3; have v3 := L.v3; have z9 := L.z9; have v9 := L.v9; have z31 := L.z31; have v31 := L.v31
  have e221 : ∀ args w, (callFunc (ρ.f 221) args).run P w = .ok (.enter (ρ.f 221) args) w := enters_of L.f221 (by kernel_rfl) rfl
  go_enter L.f146, Body.n146_ntmps ρ
  go_wp2_with (go_at_fn (ρ.f 221); refine k.mono ?_; rintro e w' ⟨rfl, hw⟩; rw [hw])
  go_ret
  exact ⟨rfl, rfl⟩
end
def strsL (l : List (List UInt8)) : List PV := l.map fun x => .str ⟨x.toArray⟩
theorem ev_split (s : ByteArray) (c : UInt8) (hs : s.size < 4294967281) : Ev Tryz.prog 29 [.str s, .str ⟨#[c]⟩] [] (.sl false 1 (strsL (splitC c s.data.toList))) [] := by
  refine Ev.of_calls (by kernel_rfl) rfl rfl fun M w vals hmem hv => ?_
  obtain ⟨u1, us, e1, r1, hv⟩ := reps_cons.1 hv
  obtain ⟨u2, us, rfl, r2, hv⟩ := reps_cons.1 hv
  rw [reps_nil] at hv; subst hv
  have : vals = #[.string s, .string ⟨#[c]⟩] := by rw [← Array.toList_inj, e1, rep_str.1 r1, rep_str.1 r2]
  subst this
  refine (split_run Tryz.lays146 (by kernel_rfl) s c _ (Lib.count_one c _) w hs).mono ?_
  rintro e w' ⟨rfl, rfl⟩
  refine ⟨_, rfl, ?_, (Below.refl _ _).alloc (Nat.le_refl _) _⟩
  have hl : (splitC c s.data.toList).length = s.data.toList.count c + 1 := by
    have h := congrArg List.length (splitB_one c s)
    rw [List.length_map] at h
    rw [← h]
    have := Lib.splitB_all ⟨#[c]⟩ (Nat.le_refl 1) 0 (s.data.toList.count c) s (Lib.count_one c _)
    exact this
  refine rep_sl.2 ⟨_, _, by rw [show (strsL (splitC c s.data.toList)).length = s.data.toList.count c + 1 by simp [strsL, hl]], by simp [strsL, hl], fun e he => ?_, fun h => absurd h (by decide), fun _ => ⟨_, _, rfl, ?_⟩⟩
  · obtain ⟨x, _, rfl⟩ := List.mem_map.1 he; rfl
  · rw [splitB_one]
    have key : ∀ (l : List (List UInt8)) (vs : List Value) (o : Nat), (∀ j, j < l.length → vs[o + j]? = (l[j]?).map fun x => Value.string ⟨x.toArray⟩) → Locs (news M w.heap.size (w.alloc (.cells vs.toArray (Tryz.lays146_ren.t 9)))) [] 1 (strsL l) w.heap.size o := by
      intro l
      induction l with
      | nil => intro vs o _; exact locs_nil
      | cons x l ih =>
        intro vs o h
        refine locs_cons.2 ⟨(loc_one rfl (fun _ h => by cases h)).2 ⟨.string ⟨x.toArray⟩, ?_, rep_str.2 rfl⟩, ih vs (o + 1) fun j hj => ?_⟩
        · have h0 := h 0 (by simp)
          simp only [Nat.add_zero, List.getElem?_cons_zero, Option.map_some] at h0
          exact news_new hmem (Nat.le_refl _) (by rw [World.cell?_alloc_new]; simpa using h0) rfl
        · have := h (j + 1) (by simp; omega)
          rw [show o + 1 + j = o + (j + 1) by omega, this]; simp
    exact key _ _ 0 fun j hj => by simp [List.getElem?_map, Function.comp_def]
end Go.Proofs.YtiejgieiokmmfaaGreatDoor
