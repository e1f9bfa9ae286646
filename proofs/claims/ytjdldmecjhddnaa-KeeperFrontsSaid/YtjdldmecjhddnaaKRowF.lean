/- Arguments of the laws, opened: lists of lists of pairs. -/
import Derived.Test.YtjdldmecjhddnaaKRow
import Derived.Test.YtjdldmecjhddnaaK17
namespace Go.Proofs.Ytjdldmecjhddnaa
open Go.ChangeShapes Go.WideShapes Go.RowKit Go.Deep Go.Joins
set_option linter.unusedVariables false
set_option linter.unusedSimpArgs false

theorem cells_pair : Try.prog.cellsOf 54 = 2 := by kernel_rfl
theorem cells_pairs : Try.prog.cellsOf 48 = 1 := by kernel_rfl
section
variable {H : Type} {enc : TypeId × Value → H} {w : World}
set_option maxRecDepth 100000 in
theorem open_pairs {fuel : Nat} {cs : List Value} {x : DataW H × List MemPlace} (h : DataW.trod enc Try.prog w 0 (fun _ => true) true fuel 48 cs = some x) :
    ∃ (a : Option Addr) (xs : List (Int × Int)) (c : Nat), cs = [.slice a xs.length c] ∧ RdP w a xs ∧ xs.length ≤ 9223372036854775807 := by
  rcases open_slice Try.underlying48 h with ⟨hcs, _⟩ | ⟨a, len, cap, m, n, D, Pl, hcs, _, hl, hm, hmm, _, hi⟩
  · exact ⟨none, [], 0, hcs, Rd.nil, by decide⟩
  · have hmc : m = cap := hmm
    subst hmc
    rw [cells_pair] at hi
    have each : ∀ i, i < len → ∃ q : Int × Int, w.cell? (a.add (i * 2)) = some (.int .i64 q.1) ∧ w.cell? (a.add (i * 2 + 1)) = some (.int .i64 q.2) := by
      intro i hil
      obtain ⟨cs', hc, ht⟩ := hi i (by omega)
      obtain ⟨_, hcl, hat⟩ := World.cells?_some hc
      obtain ⟨xs, m', _, _, _, hxl, hx⟩ := DataW.trod_array Try.underlying54 ht
      obtain ⟨y0, y1, rfl⟩ : ∃ y0 y1, xs = [y0, y1] := by
        match xs, hxl with
        | [y0, y1], _ => exact ⟨y0, y1, rfl⟩
      match cs', hcl with
      | [c0, c1], _ =>
        have h0 := hx 0 (by decide)
        have h1 := hx 1 (by decide)
        rw [cells_int] at h0 h1
        have h0' : DataW.trod enc Try.prog w 0 (fun _ => true) true m' 3 [c0] = some y0 := h0
        have h1' : DataW.trod enc Try.prog w 0 (fun _ => true) true m' 3 [c1] = some y1 := h1
        obtain ⟨k0, e0, _⟩ := DataW.trod_int Try.underlying3 h0'
        obtain ⟨k1, e1, _⟩ := DataW.trod_int Try.underlying3 h1'
        have f0 : c0 = .int .i64 k0 := by simpa using e0
        have f1 : c1 = .int .i64 k1 := by simpa using e1
        refine ⟨(k0, k1), ?_, ?_⟩
        · have := hat 0 (by decide); rw [Go.Deep.add_add, Nat.add_zero] at this; rw [this, f0]; rfl
        · have := hat 1 (by decide); rw [Go.Deep.add_add] at this; rw [this, f1]; rfl
    have hF : ∃ F : Nat → Int × Int, ∀ i, i < len → w.cell? (a.add (i * 2)) = some (.int .i64 (F i).1) ∧ w.cell? (a.add (i * 2 + 1)) = some (.int .i64 (F i).2) :=
      ⟨fun i => if h : i < len then Classical.choose (each i h) else (0, 0), fun i hil => by simp only [dif_pos hil]; exact Classical.choose_spec (each i hil)⟩
    obtain ⟨F, hF⟩ := hF
    refine ⟨some a, (List.range len).map F, m, by simpa using hcs, fun hne => ?_, by simp; unfold maxLen at hm; omega⟩
    have h0 : 0 < len := by
      rcases Nat.eq_zero_or_pos len with e | e
      · subst e; simp at hne
      · exact e
    have hs : a = ⟨a.block, a.off, none⟩ := by
      have := (hF 0 h0).1
      rw [Nat.zero_mul] at this
      exact spot_none (by simpa [Addr.add] using this)
    refine ⟨a.block, a.off, congrArg some hs, fun i o ho j v hv => ?_⟩
    have hil : i < len := by
      rcases Nat.lt_or_ge i len with h' | h'
      · exact h'
      · rw [List.getElem?_eq_none (by simpa using h')] at ho; cases ho
    obtain rfl : F i = o := by simpa [hil] using ho
    obtain ⟨g0, g1⟩ := hF i hil
    rw [add_at hs] at g0 g1
    rcases j with _ | _ | j
    · obtain rfl : Value.int .i64 (F i).1 = v := by simpa [encP] using hv
      exact g0
    · obtain rfl : Value.int .i64 (F i).2 = v := by simpa [encP] using hv
      exact g1
    · simp [encP] at hv
set_option maxRecDepth 100000 in
theorem open_fronts {a : Option Addr} {len cap : Nat} {d : DataW H} {ps : List MemPlace} (h : DataW.Trod enc Try.prog w 0 (fun _ => true) true 44 (.slice a len cap) d ps) :
    ∃ ll : List (List (Int × Int)), ll.length = len ∧ RdLL w a ll ∧ len ≤ 9223372036854775807 ∧ ∀ l ∈ ll, l.length ≤ 9223372036854775807 := by
  obtain ⟨fuel, hf⟩ := h
  rcases open_slice1 Try.underlying44 cells_pairs hf with ⟨hcs, _⟩ | ⟨x, l, c, m, n, V, D, Pl, hcs, _, hl, hm, hmm, _, hi⟩
  · simp [Value.cells] at hcs
    obtain ⟨rfl, rfl, rfl⟩ := hcs
    exact ⟨[], rfl, RdLL.nil, by decide, fun l hl => by simp at hl⟩
  · simp [Value.cells] at hcs
    obtain ⟨rfl, rfl, rfl⟩ := hcs
    have hmc : m = cap := hmm
    subst hmc
    have each : ∀ i, i < len → ∃ q : List (Int × Int), (∃ ra rc, w.cell? (x.add i) = some (.slice ra q.length rc) ∧ RdP w ra q) ∧ q.length ≤ 9223372036854775807 := by
      intro i hil
      obtain ⟨h1, h2⟩ := hi i (by omega)
      obtain ⟨ra, xs, rc, e, hr, hb⟩ := open_pairs h2
      have e2 : V i = .slice ra xs.length rc := by simpa using e
      exact ⟨xs, ⟨ra, rc, by rw [h1, e2], hr⟩, hb⟩
    have hF : ∃ F : Nat → List (Int × Int), ∀ i, i < len → (∃ ra rc, w.cell? (x.add i) = some (.slice ra (F i).length rc) ∧ RdP w ra (F i)) ∧ (F i).length ≤ 9223372036854775807 :=
      ⟨fun i => if h : i < len then Classical.choose (each i h) else [], fun i hil => by simp only [dif_pos hil]; exact Classical.choose_spec (each i hil)⟩
    obtain ⟨F, hF⟩ := hF
    refine ⟨(List.range len).map F, by simp, fun hne => ?_, by unfold maxLen at hm; omega, fun l hl' => ?_⟩
    · have h0 : 0 < len := by
        rcases Nat.eq_zero_or_pos len with e | e
        · subst e; simp at hne
        · exact e
      have hs : x = ⟨x.block, x.off, none⟩ := by
        obtain ⟨ra, rc, h1, _⟩ := (hF 0 h0).1
        exact spot_none (by simpa [Addr.add] using h1)
      refine ⟨x.block, x.off, congrArg some hs, fun i o ho => ?_⟩
      have hil : i < len := by
        rcases Nat.lt_or_ge i len with h' | h'
        · exact h'
        · rw [List.getElem?_eq_none (by simpa using h')] at ho; cases ho
      obtain rfl : F i = o := by simpa [hil] using ho
      obtain ⟨ra, rc, h1, h2⟩ := (hF i hil).1
      rw [add_at hs] at h1
      exact ⟨ra, rc, h1, h2⟩
    · obtain ⟨i, hi', rfl⟩ := List.mem_map.1 hl'
      exact (hF i (List.mem_range.1 hi')).2
end
end Go.Proofs.Ytjdldmecjhddnaa
