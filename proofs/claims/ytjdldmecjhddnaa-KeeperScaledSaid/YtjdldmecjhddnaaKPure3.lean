/- Plain lemmas: lists of bought offers and their bits. No program in sight. -/
import Derived.Test.YtjdldmecjhddnaaKPure2
import Derived.Test.YtjdldmecjhddnaaKPure
namespace Go.Proofs.Ytjdldmecjhddnaa
set_option linter.unusedVariables false
set_option linter.unusedSimpArgs false

theorem sorted_eq : ∀ (l r : List Int), l.Pairwise (· < ·) → r.Pairwise (· < ·) → (∀ x, x ∈ l ↔ x ∈ r) → l = r
  | [], [], _, _, _ => rfl
  | [], b :: r, _, _, h => absurd ((h b).2 (by simp)) (by simp)
  | a :: l, [], _, _, h => absurd ((h a).1 (by simp)) (by simp)
  | a :: l, b :: r, hl, hr, h => by
    obtain ⟨hl1, hl2⟩ := List.pairwise_cons.1 hl
    obtain ⟨hr1, hr2⟩ := List.pairwise_cons.1 hr
    have hab : a = b := by
      rcases List.mem_cons.1 ((h a).1 (by simp)) with e | e
      · exact e
      · rcases List.mem_cons.1 ((h b).2 (by simp)) with e2 | e2
        · exact e2.symm
        · have := hr1 a e; have := hl1 b e2; omega
    subst hab
    rw [sorted_eq l r hl2 hr2]
    intro x
    constructor
    · intro hx
      rcases List.mem_cons.1 ((h x).1 (by simp [hx])) with e | e
      · subst e; have := hl1 x hx; omega
      · exact e
    · intro hx
      rcases List.mem_cons.1 ((h x).2 (by simp [hx])) with e | e
      · subst e; have := hr1 x hx; omega
      · exact e
theorem right_bd {k : Nat} {l : List Int} (h : right k l = true) : ∀ x ∈ l, 0 ≤ x ∧ x < k := by
  intro x hx
  obtain ⟨i, hi, rfl⟩ := List.getElem_of_mem hx
  have := right_iff.1 h i hi
  unfold rightAt at this
  rw [List.getD_eq_getElem?_getD, List.getElem?_eq_getElem hi] at this
  exact ⟨this.1, this.2.1⟩
theorem right_sorted {k : Nat} {l : List Int} (h : right k l = true) : l.Pairwise (· < ·) := by
  rw [List.pairwise_iff_getElem]
  intro i j hi hj hij
  have hr := right_iff.1 h
  suffices hs : ∀ d, ∀ (hd : i + d + 1 < l.length), l[i] < l[i + d + 1] by
    have := hs (j - i - 1) (by omega)
    have e : i + (j - i - 1) + 1 = j := by omega
    simp only [e] at this; exact this
  intro d
  induction d with
  | zero =>
    intro hd
    have := (hr (i + 1) hd).2.2
    rw [List.getD_eq_getElem?_getD, List.getD_eq_getElem?_getD, List.getElem?_eq_getElem hd, show i + 1 - 1 = i from rfl, List.getElem?_eq_getElem hi] at this
    simpa using this
  | succ d ih =>
    intro hd
    have h1 := ih (by omega)
    have := (hr (i + (d + 1) + 1) hd).2.2
    rw [List.getD_eq_getElem?_getD, List.getD_eq_getElem?_getD, List.getElem?_eq_getElem hd, show i + (d + 1) + 1 - 1 = i + d + 1 from by omega, List.getElem?_eq_getElem (by omega : i + d + 1 < l.length)] at this
    simp only [Option.getD_some] at this
    have h3 : l[i + d + 1] < l[i + (d + 1) + 1] := by rcases this with h | h; omega; exact h
    omega
theorem bits_sorted (k s : Nat) : (bits k s).Pairwise (· < ·) := by
  unfold bits
  rw [List.pairwise_map]
  exact (List.pairwise_lt_range.filter _).imp (fun h => Int.ofNat_lt.2 h)
theorem testBit_setN : ∀ (l : List Int) (s i : Nat), (∀ x ∈ l, 0 ≤ x) → ((l.foldl (fun s k => s ||| (1 <<< k.toNat)) s).testBit i = true ↔ s.testBit i = true ∨ (i : Int) ∈ l)
  | [], s, i, _ => by simp
  | x :: r, s, i, h => by
    have h0 := h x (by simp)
    rw [List.foldl_cons, testBit_setN r _ i (fun y hy => h y (by simp [hy])), Nat.testBit_or, Nat.one_shiftLeft, Nat.testBit_two_pow]
    simp only [Bool.or_eq_true, decide_eq_true_eq, List.mem_cons]
    constructor
    · rintro ((h1 | h1) | h1)
      · exact .inl h1
      · exact .inr (.inl (by omega))
      · exact .inr (.inr h1)
    · rintro (h1 | h1 | h1)
      · exact .inl (.inl h1)
      · exact .inl (.inr (by omega))
      · exact .inr h1
theorem setN_bit {l : List Int} (h : ∀ x ∈ l, 0 ≤ x) (i : Nat) : (setN l).testBit i = true ↔ (i : Int) ∈ l := by
  unfold setN; rw [testBit_setN l 0 i h]; simp
theorem setN_two {l : List Int} {k : Nat} (h : ∀ x ∈ l, 0 ≤ x ∧ x < k) : setN l < 2 ^ k := by
  suffices hs : ∀ (l : List Int) (s : Nat), (∀ x ∈ l, 0 ≤ x ∧ x < k) → s < 2 ^ k → l.foldl (fun s k => s ||| (1 <<< k.toNat)) s < 2 ^ k from hs l 0 h (Nat.two_pow_pos _)
  intro l
  induction l with
  | nil => intro s _ h; exact h
  | cons x r ih =>
    intro s hx hs
    refine ih _ (fun y hy => hx y (by simp [hy])) (Nat.or_lt_two_pow hs ?_)
    have h1 := hx x (by simp)
    rw [Nat.one_shiftLeft]; exact Nat.pow_lt_pow_right (by decide) (by omega)
theorem mem_bits {k s : Nat} {x : Int} : x ∈ bits k s ↔ 0 ≤ x ∧ x < k ∧ s.testBit x.toNat = true := by
  unfold bits
  simp only [List.mem_map, List.mem_filter, List.mem_range]
  constructor
  · rintro ⟨i, ⟨h1, h2⟩, rfl⟩
    exact ⟨Int.natCast_nonneg _, Int.ofNat_lt.2 h1, h2⟩
  · rintro ⟨h0, h1, h2⟩
    exact ⟨x.toNat, ⟨by omega, h2⟩, Int.toNat_of_nonneg h0⟩
theorem bits_setN {k : Nat} {l : List Int} (h : right k l = true) (hk : k ≤ 12) : bits 12 (setN l) = l := by
  have hb := right_bd h
  refine sorted_eq _ _ (bits_sorted _ _) (right_sorted h) (fun x => ?_)
  rw [mem_bits]
  constructor
  · rintro ⟨h0, h1, h2⟩
    have := (setN_bit (fun x hx => (hb x hx).1) _).1 h2
    rwa [Int.toNat_of_nonneg h0] at this
  · intro hx
    have := hb x hx
    refine ⟨this.1, by omega, (setN_bit (fun x hx => (hb x hx).1) _).2 ?_⟩
    rwa [Int.toNat_of_nonneg this.1]
theorem right_len {k : Nat} {l : List Int} (h : right k l = true) (hk : k ≤ 12) : l.length ≤ 12 := by
  have := bits_len 12 (setN l); rwa [bits_setN h hk] at this
theorem right_nil (k : Nat) : right k [] = true := rfl
def allN (m : Mk) : Nat := 2 ^ m.os.length - 1
end Go.Proofs.Ytjdldmecjhddnaa
