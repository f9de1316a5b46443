/-
  The contract of LexerLengths.
-/
import Derived.Test.YtoajpgclgdhhlaaPQ16
import Derived.Test.YtoajpgclgdhhlaaC16r
import Derived.Test.YtoajpgclgdhhlaaW16l
namespace Go.Proofs.Ytoajpgclgdhhlaa.W
set_option linter.unusedVariables false
set_option linter.unusedSimpArgs false
set_option linter.unnecessarySimpa false
set_option linter.unusedSectionVars false
open Go.RowKit
set_option maxRecDepth 1000000
def u8P (c : Nat) : PV := .int .u8 (c : Int)
def fillL (i n c : Nat) : List PV := List.replicate i (u8P c) ++ List.replicate (n - i) (u8P 0)
theorem fill_mem {i n c : Nat} {p : PV} (h : p ∈ fillL i n c) : p = u8P c ∨ p = u8P 0 := by
  unfold fillL at h
  rcases List.mem_append.1 h with h | h
  · exact .inl (List.mem_replicate.1 h).2
  · exact .inr (List.mem_replicate.1 h).2
theorem fill_plain (i n c : Nat) : (fillL i n c).all plainC = true := by
  rw [List.all_eq_true]
  intro p hp
  rcases fill_mem hp with rfl | rfl <;> rfl
theorem fill_len {i n : Nat} (c : Nat) (h : i ≤ n) : (fillL i n c).length = n := by
  unfold fillL; rw [List.length_append, List.length_replicate, List.length_replicate]; omega
theorem fill_set {i n : Nat} (c : Nat) (h : i < n) : (fillL i n c).set i (u8P c) = fillL (i + 1) n c := by
  unfold fillL
  rw [List.set_append_right _ _ (by rw [List.length_replicate]; exact Nat.le_refl _), List.length_replicate, Nat.sub_self]
  obtain ⟨m, hm⟩ : ∃ m, n - i = m + 1 := ⟨n - i - 1, by omega⟩
  rw [hm, List.replicate_succ, List.set_cons_zero, show n - (i + 1) = m by omega, List.replicate_succ', List.append_assoc]; rfl
theorem fill_full (n c : Nat) : fillL n n c = List.replicate n (u8P c) := by
  unfold fillL; rw [Nat.sub_self, List.replicate_zero, List.append_nil]
theorem fill_zero (n c : Nat) : fillL 0 n c = List.replicate n (.int .u8 0) := by
  unfold fillL; rw [Nat.sub_zero]; rfl
theorem chunk_rep (n c : Nat) : chunkP 1 (List.replicate n (u8P c)) n = List.replicate n (u8P c) := by
  show ((List.replicate n (u8P c)).take n).map PV.un = _
  rw [List.take_of_length_le (by rw [List.length_replicate]; exact Nat.le_refl _), List.map_replicate]; rfl
theorem all_rep {p : PV → Bool} {n : Nat} {x : PV} (h : p x = true) : (List.replicate n x).all p = true := by
  rw [List.all_eq_true]
  intro y hy
  rw [(List.mem_replicate.1 hy).2]; exact h
theorem strOf_bytes : ∀ (l : List UInt8), strOf (l.map fun x => .int .u8 (x.toNat : Int)) = bs l := by
  have key : ∀ (l : List UInt8) (a : ByteArray), ((l.map fun x => PV.int .u8 (x.toNat : Int)).map byteInt).foldl (fun r n => r.push (UInt8.ofNat n.toNat)) a = ⟨a.data ++ l.toArray⟩ := by
    intro l
    induction l with
    | nil => intro a; simp
    | cons b l ih =>
      intro a
      rw [List.map_cons, List.map_cons, List.foldl_cons, ih]
      apply ByteArray.ext
      show (a.push (UInt8.ofNat ((b.toNat : Int)).toNat)).data ++ l.toArray = _
      rw [Int.toNat_natCast, UInt8.ofNat_toNat]
      apply Array.ext'
      simp
  intro l
  unfold strOf
  rw [key]
  apply ByteArray.ext
  simp [bs]
theorem strOf_rep (n : Nat) (c : UInt8) : strOf (List.replicate n (u8P c.toNat)) = bs (List.replicate n c) := by
  rw [← strOf_bytes, List.map_replicate]; rfl
theorem blanks : ∀ (n i line start : Nat) (acc : List Tok), scanC false (List.replicate n 32) i line start acc = .ok (acc ++ [(⟨4, [], 0, (line : Nat), ((i + n - start + 1 : Nat) : Int)⟩ : Tok)])
  | 0, i, line, start, acc => C_nil false i line start acc
  | n + 1, i, line, start, acc => by
    rw [List.replicate_succ, C_step (c' := false) (by rw [skipS]; rfl), if_neg (by decide), if_neg (by decide), blanks n, show i + 1 + n = i + (n + 1) by omega]
theorem lens_end (k : Nat) (hk : k = 0 ∨ k = 1) : g3_L12 (k : Int) (65536 + k) (List.replicate (65536 + k) (u8P 32)) ((32 + k : Nat) : Int) (List.replicate (32 + k) (u8P 120)) = Ret (.bool true) := by
  have e2 : IntKind.i64.wrap (32 + (k : Int)) = ((32 + k : Nat) : Int) := by rw [wrap64 (by omega) (by omega)]; omega
  have hbp : ∀ n c : Nat, c < 256 → bytesP (List.replicate n (u8P c)) = true := fun n c hc => all_rep rfl
  have hof : ∀ n c : Nat, (decide (n * 1 ≤ (List.replicate n (u8P c)).length) && decide (0 < 1) && (List.replicate n (u8P c)).all fun p => p.one && p.flat) = true := fun n c => by
    rw [all_rep (p := fun p => p.one && p.flat) rfl, List.length_replicate, Nat.mul_one, decT (Nat.le_refl _)]; rfl
  have hpl : ∀ n c : Nat, (List.replicate n (u8P c)).all plainC = true := fun n c => all_rep rfl
  rw [g3_L12_eq, e2]
  simp only [Int.toNat_natCast, hpl, Bool.and_self]
  rw [chk_of rfl, decF (by omega), bsel_false, chk_of (hof _ _), chk_of (hof _ _)]
  have q1 : strOf (List.replicate (65536 + k) (u8P 32)) = bs (List.replicate (65536 + k) 32) := strOf_rep _ 32
  have q2 : strOf (List.replicate (32 + k) (u8P 120)) = bs (List.replicate (32 + k) 120) := strOf_rep _ 120
  simp only [chunk_rep, q1, q2]
  rw [chk_of (hbp _ _ (by omega))]
  have h12 : ∀ (x : List UInt8) {K : PV → R}, clX SS.CC 12 [.str (bs x)] K = K (scanP (scanT x)) := fun x {K} => clX_of (c12 x)
  have hcat : (⟨#[32]⟩ : ByteArray) ++ bs (List.replicate (32 + k) 120) = bs (32 :: List.replicate (32 + k) 120) := by
    apply ByteArray.ext
    simp [bs]
  simp only [hcat, h12]
  have hw : bytesP (List.replicate (32 + k) (u8P 120)) = true := hbp _ _ (by omega)
  have hsz : decide ((⟨#[32]⟩ : ByteArray).size + (bs (List.replicate (32 + k) 120)).size ≤ LIM) = true := decT (by rw [bs_size, List.length_replicate]; show 1 + _ ≤ LIM; unfold LIM; omega)
  simp only [hw, hsz]
  rcases hk with rfl | rfl
  · have s1 : scanT (List.replicate (65536 + 0) 32) = .ok [⟨4, [], 0, ((1 : Nat) : Int), ((0 + (65536 + 0) - 0 + 1 : Nat) : Int)⟩] := by
      unfold scanT
      rw [List.length_replicate, if_neg (by omega)]
      have := blanks (65536 + 0) 0 1 0 []
      rw [← scan_C, List.length_replicate] at this
      exact this
    have s2 : scanT (32 :: List.replicate (32 + 0) 120) = .ok [⟨1, List.replicate 32 120, 0, 1, 2⟩, ⟨4, [], 0, 1, 34⟩] := by kernel_rfl
    have s3 : scanT [54, 53, 53, 51, 54] = .ok [⟨2, [54, 53, 53, 51, 54], 65536, 1, 1⟩, ⟨4, [], 0, 1, 6⟩] := by kernel_rfl
    rw [s1, s2]
    simp only [scanP, w_24_3_3_3_mk, chk_of]
    rw [show lgetX [PV.str ⟨#[54, 53, 53, 51, 54]⟩, .str ⟨#[54, 53, 53, 51, 55]⟩] ((0 : Nat) : Int) = fun K => K (.str (bs [54, 53, 53, 51, 54])) from rfl]
    simp only [vS_mk, h12, s3, scanP, w_24_3_3_3_mk]
    rfl
  · have s1 : scanT (List.replicate (65536 + 1) 32) = .err 1 1 15 := by
      unfold scanT
      rw [List.length_replicate, if_pos (by omega)]
    have s2 : scanT (32 :: List.replicate (32 + 1) 120) = .err 1 2 15 := by kernel_rfl
    have s3 : scanT [54, 53, 53, 51, 55] = .err 1 1 2 := by kernel_rfl
    rw [s1, s2]
    simp only [scanP, w_24_3_3_3_mk, chk_of]
    rw [show lgetX [PV.str ⟨#[54, 53, 53, 51, 54]⟩, .str ⟨#[54, 53, 53, 51, 55]⟩] ((1 : Nat) : Int) = fun K => K (.str (bs [54, 53, 53, 51, 55])) from rfl]
    simp only [vS_mk, h12, s3, scanP, w_24_3_3_3_mk]
    rfl
theorem lens12 (k : Nat) (hk : k = 0 ∨ k = 1) : ∀ (m j : Nat), j + m = 32 + k → g3_L12 (k : Int) (65536 + k) (List.replicate (65536 + k) (u8P 32)) (j : Int) (fillL j (32 + k) 120) = Ret (.bool true) := by
  have e2 : IntKind.i64.wrap (32 + (k : Int)) = ((32 + k : Nat) : Int) := by rw [wrap64 (by omega) (by omega)]; omega
  have hpl : ∀ n c : Nat, (List.replicate n (u8P c)).all plainC = true := fun n c => all_rep rfl
  intro m
  induction m with
  | zero =>
    intro j hj
    have : j = 32 + k := by omega
    subst this
    rw [fill_full]; exact lens_end k hk
  | succ m ih =>
    intro j hj
    have hlt : j < 32 + k := by omega
    rw [g3_L12_eq, e2]
    simp only [Int.toNat_natCast, hpl, fill_plain, Bool.and_self]
    rw [chk_of rfl, decT (by omega), bsel_true, chk_of rfl, chk_of (by simp <;> omega), chk_of (decT (by rw [fill_len _ (by omega)]; exact hlt)), show PV.int .u8 120 = u8P 120 from rfl, fill_set _ hlt, fill_plain, chk_of (b := true && (true && true)) rfl, wrs (by omega)]
    exact ih (j + 1) (by omega)
theorem lens7 (k : Nat) (hk : k = 0 ∨ k = 1) : ∀ (m j : Nat), j + m = 65536 + k → g3_L7 (k : Int) (65536 + k) (fillL j (65536 + k) 32) (j : Int) = Ret (.bool true) := by
  have e2 : IntKind.i64.wrap (32 + (k : Int)) = ((32 + k : Nat) : Int) := by rw [wrap64 (by omega) (by omega)]; omega
  intro m
  induction m with
  | zero =>
    intro j hj
    have : j = 65536 + k := by omega
    subst this
    rw [g3_L7_eq]
    simp only [fill_plain, Bool.and_self]
    rw [chk_of rfl, decF (by omega), bsel_false, chk_of rfl, e2, chk_of (by simp <;> omega), fill_full, Int.toNat_natCast, ← fill_zero (32 + k) 120]
    exact lens12 k hk (32 + k) 0 (by omega)
  | succ m ih =>
    intro j hj
    have hlt : j < 65536 + k := by omega
    rw [g3_L7_eq]
    simp only [fill_plain, Bool.and_self]
    rw [chk_of rfl, decT (by omega), bsel_true, chk_of rfl, chk_of (by simp <;> omega), chk_of (decT (by rw [fill_len _ (by omega), Int.toNat_natCast]; exact hlt)), Int.toNat_natCast, show PV.int .u8 32 = u8P 32 from rfl, fill_set _ hlt, fill_plain, chk_of (b := true && true) rfl, wrs (by omega)]
    exact ih (j + 1) (by omega)
/-- LexerLengths says true. -/
theorem c3 (c : UInt8) : SS.CC 3 [.int .u8 (c.toNat : Int)] [] = Ret (.bool true) := by
  have hk : c.toNat % 2 = 0 ∨ c.toNat % 2 = 1 := by omega
  have e0 : IntKind.i64.wrap (Int.tmod (c.toNat : Int) 2) = ((c.toNat % 2 : Nat) : Int) := by
    rw [Int.tmod_eq_emod_of_nonneg (by omega), wrap64 (by omega) (by omega)]; rfl
  have e1 : IntKind.i64.wrap (65536 + ((c.toNat % 2 : Nat) : Int)) = ((65536 + c.toNat % 2 : Nat) : Int) := by rw [wrap64 (by omega) (by omega)]; omega
  rw [g3_eq, clX_of c11, vB_mk, Bool.not_true, bsel_false, e0, e1, chk_of (by simp <;> omega), Int.toNat_natCast, ← fill_zero (65536 + c.toNat % 2) 32]
  exact lens7 _ hk (65536 + c.toNat % 2) 0 (by omega)
end Go.Proofs.Ytoajpgclgdhhlaa.W
