/- A slice of rows of the call's own, in memory. No program in sight. -/
import Derived.Test.YtjdldmecjhddnaaKMem2
import Derived.OneCell
import Derived.Test.YtjdldmecjhddnaaKPure5
namespace Go.Proofs.Ytjdldmecjhddnaa
open Go.RowKit
set_option linter.unusedVariables false
set_option linter.unusedSimpArgs false

def updF {α : Type} (f : Nat → α) (b : Nat) (x : α) : Nat → α := fun i => if i = b then x else f i
/-- The cells of block G hold n slices, each a row of its own. -/
structure FrT (w : World) (base G n : Nat) (e : TypeId) (V : Nat → Value) (L : Nat → List (Int × Int)) : Prop where
  hG : G < base
  cell : ∀ b, b < n → w.cell? ⟨G, b, none⟩ = some (V b)
  free : ∀ b, b < n → w.frozen? ⟨G, b, none⟩ = false
  own : ∀ b, b < n → w.ownsRow base e 2 (V b) (L b).length ((L b).flatMap encP)
  sep : ∀ b c, b < n → c < n → b ≠ c → (V b).ownBlock = none ∨ (V b).ownBlock ≠ (V c).ownBlock
variable {w w' : World} {base G n : Nat} {e : TypeId} {V : Nat → Value} {L : Nat → List (Int × Int)}
theorem FrT.below (h : FrT w base G n e V L) (hb : Below w.heap.size w w') : FrT w' base G n e V L :=
  ⟨h.hG, fun b hbn => below_cell hb (h.cell b hbn), fun b hbn => (hb.frozen (World.block_lt_of_cell? w _ (h.cell b hbn))).trans (h.free b hbn), fun b hbn => own_below (h.own b hbn) hb, h.sep⟩
theorem FrT.congr {L' : Nat → List (Int × Int)} (h : FrT w base G n e V L) (hl : ∀ b, b < n → L b = L' b) : FrT w base G n e V L' :=
  ⟨h.hG, h.cell, h.free, fun b hb => by rw [← hl b hb]; exact h.own b hb, h.sep⟩
theorem FrT.start {t : TypeId} (hG : G < base) (h : w.rowIs G t n fun _ => (.slice none 0 0)) : FrT w base G n e (fun _ => .slice none 0 0) (fun _ => []) :=
  ⟨hG, fun b hb => h.cell hb, fun b _ => h.frozen b, fun b hb => World.ownsRow_nil _ _ _ _, fun b c _ _ _ => .inl rfl⟩
/-- Row b has grown into another one: the others stand. (Before the cell is set.) -/
theorem FrT.grown (h : FrT w base G n e V L) {b : Nat} (hb : b < n) {v : Value} (hg : w.grownBy w' (V b).ownBlock) {c : Nat} (hc : c < n) (hne : b ≠ c) : w'.ownsRow base e 2 (V c) (L c).length ((L c).flatMap encP) := by
  refine (h.own c hc).kept hg ?_
  rcases h.sep c b hc hb (fun e => hne e.symm) with h1 | h1
  · exact .inl h1
  · exact .inr h1
theorem grown_cell {row : Option Nat} (hg : w.grownBy w' row) {a : Addr} {v : Value} (hc : w.cell? a = some v) (hne : row ≠ some a.block) : w'.cell? a = some v := by
  have hlt := World.block_lt_of_cell? w a hc
  have hbk := hg.block a.block hlt (fun e => hne e.symm)
  unfold World.cell? at hc ⊢
  rw [hbk]; exact hc
theorem grown_frozen {row : Option Nat} (hg : w.grownBy w' row) {a : Addr} (hlt : a.block < w.heap.size) (hne : row ≠ some a.block) : w'.frozen? a = w.frozen? a := by
  have hbk := hg.block a.block hlt (fun e => hne e.symm)
  unfold World.frozen?
  rw [hbk]
/-- Row b grows, and its cell is set. -/
theorem FrT.put (h : FrT w base G n e V L) {b : Nat} (hb : b < n) {v : Value} {xs : List (Int × Int)} (hg : w.grownBy w' (V b).ownBlock) (hown : w'.ownsRow base e 2 v xs.length (xs.flatMap encP))
    (hv : v.ownBlock = none ∨ v.ownBlock = (V b).ownBlock ∨ ∃ k, v.ownBlock = some k ∧ w.heap.size ≤ k) :
    FrT (w'.setCell ⟨G, b, none⟩ v) base G n e (updF V b v) (updF L b xs) := by
  have hGb : (V b).ownBlock ≠ some G := fun e => by have := (h.own b hb).lt G e; have := h.hG; omega
  have hcell : ∀ c, c < n → w'.cell? ⟨G, c, none⟩ = some (V c) := fun c hc => grown_cell hg (h.cell c hc) hGb
  have hvc : ∀ c, c < n → c ≠ b → v.ownBlock = none ∨ v.ownBlock ≠ (V c).ownBlock := fun c hc hne => by
    rcases hv with h1 | h1 | ⟨k, h1, h2⟩
    · exact .inl h1
    · rw [h1]; exact h.sep b c hb hc (fun e => hne e.symm)
    · refine .inr fun e => ?_
      rw [h1] at e
      have := ((h.own c hc).lt k e.symm).2
      omega
  refine ⟨h.hG, fun c hc => ?_, fun c hc => ?_, fun c hc => ?_, fun c d hc hd hne => ?_⟩
  · unfold updF
    split
    · rename_i e; subst e; exact World.cell?_setCell_same _ _ _ (hcell c hc)
    · rename_i e; rw [World.cell?_setCell_other _ _ _ _ (by intro e2; injection e2 with _ e3; exact e e3.symm)]; exact hcell c hc
  · rw [World.frozen?_setCell, grown_frozen hg (World.block_lt_of_cell? w ⟨G, c, none⟩ (h.cell c hc)) hGb]; exact h.free c hc
  · unfold updF
    split
    · rename_i e; subst e; exact ownsRow_setCell_below hown (by exact h.hG) _
    · rename_i e; exact ownsRow_setCell_below (h.grown hb hg hc (fun e2 => e e2.symm) (v := v)) (by exact h.hG) _
  · unfold updF
    by_cases e1 : c = b
    · subst e1
      simp only [if_true]
      rw [if_neg (fun e => hne e.symm)]
      exact hvc d hd (fun e => hne e.symm)
    · rw [if_neg e1]
      by_cases e2 : d = b
      · subst e2
        simp only [if_true]
        rcases hvc c hc e1 with h1 | h1
        · cases hq : (V c).ownBlock with
          | none => exact .inl rfl
          | some k => refine .inr ?_; rw [h1]; simp
        · exact .inr (fun e => h1 e.symm)
      · rw [if_neg e2]; exact h.sep c d hc hd hne
end Go.Proofs.Ytjdldmecjhddnaa
