/- Plain definitions: fronts. No program in sight. -/
import Derived.Test.YtjdldmecjhddnaaKPure4
namespace Go.Proofs.Ytjdldmecjhddnaa
set_option linter.unusedVariables false
set_option linter.unusedSimpArgs false

/-- The order in which pairs are sorted. -/
def ltP (x y : Int × Int) : Bool := decide (x.1 < y.1) || (decide (x.1 = y.1) && decide (x.2 < y.2))
def leP (x y : Int × Int) : Prop := ltP y x = false
def insP (p : Int × Int) : List (Int × Int) → List (Int × Int)
  | [] => [p]
  | q :: r => if ltP q p then q :: insP p r else p :: q :: r
def sortP : List (Int × Int) → List (Int × Int)
  | [] => []
  | p :: r => insP p (sortP r)
theorem ltP_iff {x y : Int × Int} : ltP x y = true ↔ x.1 < y.1 ∨ (x.1 = y.1 ∧ x.2 < y.2) := by unfold ltP; simp
theorem leP_iff {x y : Int × Int} : leP x y ↔ x.1 < y.1 ∨ (x.1 = y.1 ∧ x.2 ≤ y.2) := by
  unfold leP
  cases h : ltP y x with
  | true => have := ltP_iff.1 h; simp; omega
  | false =>
    have : ¬ (y.1 < x.1 ∨ (y.1 = x.1 ∧ y.2 < x.2)) := fun h' => by rw [ltP_iff.2 h'] at h; cases h
    simp; omega
theorem leP_anti {x y : Int × Int} (h1 : leP x y) (h2 : leP y x) : x = y := by
  rw [leP_iff] at *
  exact Prod.ext (by omega) (by omega)
theorem leP_trans {x y z : Int × Int} (h1 : leP x y) (h2 : leP y z) : leP x z := by rw [leP_iff] at *; omega
theorem insP_perm (p : Int × Int) : ∀ l, (insP p l).Perm (p :: l)
  | [] => List.Perm.refl _
  | q :: r => by
    unfold insP
    split
    · exact ((insP_perm p r).cons q).trans (List.Perm.swap _ _ _)
    · exact List.Perm.refl _
theorem sortP_perm : ∀ l, (sortP l).Perm l
  | [] => List.Perm.refl _
  | p :: r => (insP_perm p (sortP r)).trans ((sortP_perm r).cons p)
theorem insP_sorted (p : Int × Int) : ∀ l, l.Pairwise leP → (insP p l).Pairwise leP
  | [], _ => by simp [insP]
  | q :: r, h => by
    obtain ⟨h1, h2⟩ := List.pairwise_cons.1 h
    unfold insP
    split
    · rename_i hq
      refine List.pairwise_cons.2 ⟨fun x hx => ?_, insP_sorted p r h2⟩
      rcases List.mem_cons.1 ((insP_perm p r).mem_iff.1 hx) with rfl | hx
      · rw [leP_iff]; have := ltP_iff.1 hq; omega
      · exact h1 x hx
    · rename_i hq
      have hpq : leP p q := by unfold leP; simpa using hq
      refine List.pairwise_cons.2 ⟨fun x hx => ?_, h⟩
      rcases List.mem_cons.1 hx with rfl | hx
      · exact hpq
      · exact leP_trans hpq (h1 x hx)
theorem sortP_sorted : ∀ l, (sortP l).Pairwise leP
  | [] => by simp [sortP]
  | p :: r => insP_sorted p _ (sortP_sorted r)
theorem sorted_unique : ∀ (l r : List (Int × Int)), l.Perm r → l.Pairwise leP → r.Pairwise leP → l = r
  | [], r, h, _, _ => (List.nil_perm.1 h).symm
  | a :: l, [], h, _, _ => absurd (List.perm_nil.1 h) (by simp)
  | a :: l, b :: r, h, hl, hr => by
    obtain ⟨hl1, hl2⟩ := List.pairwise_cons.1 hl
    obtain ⟨hr1, hr2⟩ := List.pairwise_cons.1 hr
    have hab : a = b := by
      rcases List.mem_cons.1 (h.mem_iff.1 (by simp : a ∈ a :: l)) with e | e
      · exact e
      · rcases List.mem_cons.1 (h.symm.mem_iff.1 (by simp : b ∈ b :: r)) with e2 | e2
        · exact e2.symm
        · exact leP_anti (hl1 b e2) (hr1 a e)
    subst hab
    rw [sorted_unique l r ((List.perm_cons a).1 h) hl2 hr2]
theorem sort_is {l r : List (Int × Int)} (hp : r.Perm l) (hs : r.Pairwise leP) : r = sortP l :=
  sorted_unique _ _ (hp.trans (sortP_perm l).symm) hs (sortP_sorted l)
theorem sortP_len (l : List (Int × Int)) : (sortP l).length = l.length := (sortP_perm l).length_eq

/-- Those that are worth it, of sorted ones. -/
def swpS (best : List (Int × Int)) (p : Int × Int) : List (Int × Int) := if best.length = 0 ∨ p.2 < (best.getD (best.length - 1) (0, 0)).2 then best ++ [p] else best
def swp (l : List (Int × Int)) : List (Int × Int) := l.foldl swpS []
theorem swp_snoc {l : List (Int × Int)} {k : Nat} {p : Int × Int} (h : l[k]? = some p) : swp (l.take (k + 1)) = swpS (swp (l.take k)) p := by
  rw [take_snoc h]; unfold swp; rw [List.foldl_append]; rfl
theorem swpS_len (best : List (Int × Int)) (p : Int × Int) : (swpS best p).length ≤ best.length + 1 := by
  unfold swpS; split
  · simp
  · omega
theorem swp_len (l : List (Int × Int)) : (swp l).length ≤ l.length := by
  suffices hs : ∀ (l b : List (Int × Int)), (l.foldl swpS b).length ≤ b.length + l.length by have := hs l []; simpa [swp] using this
  intro l
  induction l with
  | nil => intro b; simp
  | cons x r ih =>
    intro b
    have h1 := ih (swpS b x)
    have h2 := swpS_len b x
    simp only [List.foldl_cons, List.length_cons]
    omega
end Go.Proofs.Ytjdldmecjhddnaa
