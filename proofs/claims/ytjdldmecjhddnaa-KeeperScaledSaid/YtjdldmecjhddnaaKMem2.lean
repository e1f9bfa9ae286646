/- More on memory: rows of two types lie apart. No program in sight. -/
import Derived.Test.YtjdldmecjhddnaaKMem
namespace Go.Proofs.Ytjdldmecjhddnaa
open Go.RowKit
set_option linter.unusedVariables false
set_option linter.unusedSimpArgs false

theorem own_ne {w : World} {b b' : Nat} {e e' : TypeId} {s s' n n' : Nat} {v v' : Value} {xs xs' : List Value} (h : w.ownsRow b e s v n xs) (h' : w.ownsRow b' e' s' v' n' xs') (hne : e ≠ e') : v.ownBlock = none ∨ v.ownBlock ≠ v'.ownBlock := by
  rcases h.2 with ⟨rfl, _⟩ | ⟨g, cap, cur, rfl, _, hh, _⟩
  · exact .inl rfl
  · refine .inr fun hk => ?_
    rcases h'.2 with ⟨rfl, _⟩ | ⟨g', cap', cur', rfl, _, hh', _⟩
    · simp [Value.ownBlock] at hk
    · have hgg : g = g' := by simpa [Value.ownBlock] using hk
      subst hgg
      rw [hh] at hh'
      injection hh' with hh'
      injection hh' with _ ht _
      exact hne ht
theorem own_rdS {w : World} {base : Nat} {e : TypeId} {a : Option Addr} {c : Nat} {xs : List Int} (h : w.ownsRow base e 1 (.slice a xs.length c) xs.length (xs.map (Value.int .i64))) : RdI w a xs := by
  obtain ⟨a', c', e, hr⟩ := own_rdI h
  injection e with e1 _ _
  rw [e1]; exact hr
theorem own_below {w w' : World} {b : Nat} {e : TypeId} {s n : Nat} {v : Value} {xs : List Value} (h : w.ownsRow b e s v n xs) (hb : Below w.heap.size w w') : w'.ownsRow b e s v n xs :=
  h.kept (row := none) ⟨hb.os, hb.tape, hb.output, hb.size, fun i hi _ => hb.block i hi⟩ (by cases v.ownBlock <;> simp)
theorem TabF.setOther {w : World} {base g : Nat} {f c : Nat → Nat} {n : Nat} {d : Nat → Nat → Int} (h : TabF w base g f c n d) {p : Addr} (u : Value) (hg : p.block ≠ g) (hf : ∀ a, a < n → p.block ≠ f a) : TabF (w.setCell p u) base g f c n d :=
  ⟨h.hg, h.hf, h.inj, fun a ha => by rw [World.cell?_setCell_other _ _ _ _ (by intro e; subst e; exact hg rfl)]; exact h.row a ha,
    fun a b ha hb => by rw [World.cell?_setCell_other _ _ _ _ (by intro e; subst e; exact hf a ha rfl)]; exact h.cell a b ha hb, fun a b ha hb => by simp [h.free a b ha hb]⟩
theorem TabF.lt {w : World} {base g : Nat} {f c : Nat → Nat} {n : Nat} {d : Nat → Nat → Int} (h : TabF w base g f c n d) (hn : 0 < n) : g < w.heap.size ∧ ∀ a, a < n → f a < w.heap.size :=
  ⟨World.block_lt_of_cell? w _ (h.row 0 hn), fun a ha => World.block_lt_of_cell? w _ (h.cell a 0 ha hn)⟩
theorem _root_.Go.World.ownsRow.mono_base {w : World} {b b' : Nat} {e : TypeId} {s n : Nat} {v : Value} {xs : List Value} (h : w.ownsRow b e s v n xs) (hb : b' ≤ b) : w.ownsRow b' e s v n xs := by
  obtain ⟨h1, h2⟩ := h
  refine ⟨h1, ?_⟩
  rcases h2 with h2 | ⟨g, cap, cur, e, hg, r⟩
  · exact .inl h2
  · exact .inr ⟨g, cap, cur, e, Nat.le_trans hb hg, r⟩
theorem cdw {w : World} {a : Addr} {v : Value} (h : w.cell? a = some v) : w.drew.cell? a = some v := below_cell ((Below.refl _ _).drew) h
theorem rdI_new (w : World) (xs : List Int) (t : TypeId) : RdI (w.alloc (.cells (xs.map (Value.int .i64)).toArray t)) (some ⟨w.heap.size, 0, none⟩) xs := by
  intro _
  refine ⟨_, _, rfl, fun i x hx j v hv => ?_⟩
  have hj : j = 0 := by
    rcases j with _ | j
    · rfl
    · simp [encI] at hv
  subst hj
  obtain rfl : Value.int .i64 x = v := by simpa [encI] using hv
  rw [Nat.mul_one, Nat.zero_add, Nat.add_zero, World.cell?_alloc_new]
  simp [hx]
end Go.Proofs.Ytjdldmecjhddnaa
