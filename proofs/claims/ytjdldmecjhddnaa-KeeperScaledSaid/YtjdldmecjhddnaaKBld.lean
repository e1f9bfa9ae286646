/- Memory of markets that a law builds: their cells, and the rows that are appended to. -/
import Derived.Test.YtjdldmecjhddnaaK14
import Derived.Test.YtjdldmecjhddnaaKMem4
import Derived.Test.YtjdldmecjhddnaaKM4
namespace Go.Proofs.Ytjdldmecjhddnaa
open Go.RowKit
set_option linter.unusedVariables false
set_option linter.unusedSimpArgs false

/-- A market's cells in block X, which may be written. -/
structure Bx (w : World) (X : Nat) (u0 v1 v2 : Value) : Prop where
  c0 : w.cell? ⟨X, 0, none⟩ = some u0
  c1 : w.cell? ⟨X, 1, none⟩ = some v1
  c2 : w.cell? ⟨X, 2, none⟩ = some v2
  z0 : w.frozen? ⟨X, 0, none⟩ = false
  z1 : w.frozen? ⟨X, 1, none⟩ = false
  z2 : w.frozen? ⟨X, 2, none⟩ = false
theorem Bx.new {w : World} {n : Nat} (u0 v1 v2 : Value) (t : TypeId) (hn : n = w.heap.size) : Bx (w.alloc (.cells #[u0, v1, v2] t)) n u0 v1 v2 := by
  subst hn
  constructor <;> simp
theorem Bx.lt {w : World} {X : Nat} {u0 v1 v2 : Value} (h : Bx w X u0 v1 v2) : X < w.heap.size := World.block_lt_of_cell? w ⟨X, 0, none⟩ h.c0
theorem Bx.keep {w w' : World} {X B : Nat} {u0 v1 v2 : Value} (h : Bx w X u0 v1 v2) (hb : Below B w w') (hX : X < B) : Bx w' X u0 v1 v2 :=
  have hz : ∀ i, w.frozen? ⟨X, i, none⟩ = false → w'.frozen? ⟨X, i, none⟩ = false := fun i hi => (hb.frozen (p := ⟨X, i, none⟩) hX).trans hi
  have hc : ∀ i v, w.cell? ⟨X, i, none⟩ = some v → w'.cell? ⟨X, i, none⟩ = some v := fun i v hi => (hb.cell (p := ⟨X, i, none⟩) hX).trans hi
  ⟨hc _ _ h.c0, hc _ _ h.c1, hc _ _ h.c2, hz _ h.z0, hz _ h.z1, hz _ h.z2⟩
theorem Bx.set0 {w : World} {X : Nat} {u0 v1 v2 : Value} (h : Bx w X u0 v1 v2) (u : Value) : Bx (w.setCell ⟨X, 0, none⟩ u) X u v1 v2 := by
  have far : ∀ j x, j ≠ 0 → w.cell? ⟨X, j, none⟩ = some x → (w.setCell ⟨X, 0, none⟩ u).cell? ⟨X, j, none⟩ = some x := fun j x hj hx => by
    rw [World.cell?_setCell_other _ _ _ _ (by intro e; injection e with _ e2; omega)]; exact hx
  exact ⟨World.cell?_setCell_same _ _ _ h.c0, far _ _ (by decide) h.c1, far _ _ (by decide) h.c2, by simp [h.z0], by simp [h.z1], by simp [h.z2]⟩
theorem Bx.below {w w' : World} {X : Nat} {u0 v1 v2 : Value} (h : Bx w X u0 v1 v2) (hb : Below w.heap.size w w') : Bx w' X u0 v1 v2 :=
  have hz : ∀ i, w.frozen? ⟨X, i, none⟩ = false → w'.frozen? ⟨X, i, none⟩ = false := fun i hi => (hb.frozen (p := ⟨X, i, none⟩) h.lt).trans hi
  ⟨below_cell hb h.c0, below_cell hb h.c1, below_cell hb h.c2, hz _ h.z0, hz _ h.z1, hz _ h.z2⟩
theorem Bx.other {w : World} {X : Nat} {u0 v1 v2 : Value} (h : Bx w X u0 v1 v2) {p : Addr} (u : Value) (hp : p.block ≠ X) : Bx (w.setCell p u) X u0 v1 v2 := by
  have far : ∀ j x, w.cell? ⟨X, j, none⟩ = some x → (w.setCell p u).cell? ⟨X, j, none⟩ = some x := fun j x hx => by
    rw [World.cell?_setCell_other _ _ _ _ (by intro e; subst e; exact hp rfl)]; exact hx
  exact ⟨far _ _ h.c0, far _ _ h.c1, far _ _ h.c2, by simp [h.z0], by simp [h.z1], by simp [h.z2]⟩
theorem Bx.grown {w w' : World} {X : Nat} {u0 v1 v2 : Value} (h : Bx w X u0 v1 v2) {row : Option Nat} (hg : w.grownBy w' row) (hr : row ≠ some X) : Bx w' X u0 v1 v2 :=
  have hz : ∀ i, w.frozen? ⟨X, i, none⟩ = false → w'.frozen? ⟨X, i, none⟩ = false := fun i hi => (grown_frozen hg (a := ⟨X, i, none⟩) h.lt hr).trans hi
  ⟨grown_cell hg h.c0 hr, grown_cell hg h.c1 hr, grown_cell hg h.c2 hr, hz _ h.z0, hz _ h.z1, hz _ h.z2⟩
theorem Bx.set1 {w : World} {X : Nat} {u0 v1 v2 : Value} (h : Bx w X u0 v1 v2) (u : Value) : Bx (w.setCell ⟨X, 1, none⟩ u) X u0 u v2 := by
  have far : ∀ j x, j ≠ 1 → w.cell? ⟨X, j, none⟩ = some x → (w.setCell ⟨X, 1, none⟩ u).cell? ⟨X, j, none⟩ = some x := fun j x hj hx => by
    rw [World.cell?_setCell_other _ _ _ _ (by intro e; injection e with _ e2; omega)]; exact hx
  exact ⟨far _ _ (by decide) h.c0, World.cell?_setCell_same _ _ _ h.c1, far _ _ (by decide) h.c2, by simp [h.z0], by simp [h.z1], by simp [h.z2]⟩
theorem Bx.set2 {w : World} {X : Nat} {u0 v1 v2 : Value} (h : Bx w X u0 v1 v2) (u : Value) : Bx (w.setCell ⟨X, 2, none⟩ u) X u0 v1 u := by
  have far : ∀ j x, j ≠ 2 → w.cell? ⟨X, j, none⟩ = some x → (w.setCell ⟨X, 2, none⟩ u).cell? ⟨X, j, none⟩ = some x := fun j x hj hx => by
    rw [World.cell?_setCell_other _ _ _ _ (by intro e; injection e with _ e2; omega)]; exact hx
  exact ⟨far _ _ (by decide) h.c0, far _ _ (by decide) h.c1, World.cell?_setCell_same _ _ _ h.c2, by simp [h.z0], by simp [h.z1], by simp [h.z2]⟩
/-- From w to w' all cells stay but those of X and Y. -/
structure KpC (X Y : Nat) (w w' : World) : Prop where
  size : w.heap.size ≤ w'.heap.size
  cell : ∀ a v, a.block ≠ X → a.block ≠ Y → w.cell? a = some v → w'.cell? a = some v
theorem KpC.refl (X Y : Nat) (w : World) : KpC X Y w w := ⟨Nat.le_refl _, fun _ _ _ _ h => h⟩
theorem KpC.below {X Y : Nat} {w w1 w2 : World} (h : KpC X Y w w1) (hb : Below w1.heap.size w1 w2) : KpC X Y w w2 :=
  ⟨Nat.le_trans h.size hb.size, fun a v h1 h2 hc => below_cell hb (h.cell a v h1 h2 hc)⟩
theorem KpC.set {X Y : Nat} {w w1 : World} (h : KpC X Y w w1) {p : Addr} (u : Value) (hp : p.block = X ∨ p.block = Y) : KpC X Y w (w1.setCell p u) :=
  ⟨by simpa using h.size, fun a v h1 h2 hc => by
    rw [World.cell?_setCell_other _ _ _ _ (by intro e; subst e; rcases hp with hp | hp; exact h1 hp; exact h2 hp)]
    exact h.cell a v h1 h2 hc⟩
theorem KpC.grown {X Y : Nat} {w w1 w2 : World} (h : KpC X Y w w1) {row : Option Nat} (hg : w1.grownBy w2 row) (hr : ∀ q, row = some q → w.heap.size ≤ q) : KpC X Y w w2 :=
  ⟨Nat.le_trans h.size hg.size, fun a v h1 h2 hc => grown_cell hg (h.cell a v h1 h2 hc) (fun e => by
    have := hr _ e; have := World.block_lt_of_cell? w a hc; omega)⟩
theorem Rd.kpc {α : Type} {enc : α → List Value} {k : Nat} {X Y : Nat} {w w' : World} {a : Option Addr} {xs : List α} (h : Rd enc k w a xs) (hk : KpC X Y w w') (hX : ∀ ad, a = some ad → ad.block ≠ X ∧ ad.block ≠ Y) : Rd enc k w' a xs := by
  intro hne
  obtain ⟨b, off, e, hc⟩ := h hne
  exact ⟨b, off, e, fun i x hx j v hv => hk.cell _ _ (hX _ e).1 (hX _ e).2 (hc i x hx j v hv)⟩
/-- What came back: a market. -/
def RetMk (w w' : World) (e : Ending) (m : Mk) : Prop := ∃ mv, e = .returned mv ∧ MkRd w' m mv ∧ Below w.heap.size w w'
set_option maxHeartbeats 1000000 in
theorem l_ren1 (x y c : Int) (bx by' : Nat) (w : World) (hx : w.cell? ⟨bx, 0, none⟩ = some (.int .i64 x)) (hy : w.cell? ⟨by', 0, none⟩ = some (.int .i64 y)) :
    Calls Try.prog 83 #[.int .i64 c, .pointer (some ⟨bx, 0, none⟩), .pointer (some ⟨by', 0, none⟩)] w fun e w' => e = .returned (.int .i64 (swI x y c)) ∧ w = w' := by
  by_cases h1 : c = x
  · subst h1
    have t1 : (c == c) = true := by simp
    go_enter Try.func83, Try.ntmps83
    go_wp2
    go_ret
    exact ⟨ret_int (by simp [swI]), rfl⟩
  · have t1 : (c == x) = false := by simp [h1]
    by_cases h2 : c = y
    · subst h2
      have t2 : (c == c) = true := by simp
      go_enter Try.func83, Try.ntmps83
      go_wp2
      go_ret
      exact ⟨ret_int (by simp [swI, h1]), rfl⟩
    · have t2 : (c == y) = false := by simp [h2]
      have HE := Lib.hid (show swI x y c = c from by simp [swI, h1, h2])
      clear h1 h2
      go_enter Try.func83, Try.ntmps83
      go_wp2
      go_ret
      exact ⟨ret_int HE.out.symm, rfl⟩
end Go.Proofs.Ytjdldmecjhddnaa
