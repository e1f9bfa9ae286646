/- Arguments of the laws, opened: markets, lists of numbers. -/
import Derived.Test.YtjdldmecjhddnaaProg
import Derived.Test.YtjdldmecjhddnaaKMem
import Derived.Lib.SmallJoins
import Derived.SizedLaws
import Derived.ProofKit
import Derived.OpenShut
import Derived.ChangeOld
import Derived.Carry
namespace Go.Proofs.Ytjdldmecjhddnaa
open Go.ChangeShapes Go.WideShapes Go.RowKit Go.Deep Go.Joins
set_option linter.unusedVariables false
set_option linter.unusedSimpArgs false

theorem laidOutT : laidOutB Try.prog = true := by kernel_rfl
theorem cells_off : Try.prog.cellsOf 59 = 4 := by kernel_rfl
theorem cells_int : Try.prog.cellsOf 3 = 1 := by kernel_rfl
theorem bytes_int : Try.prog.bytesOf 3 = 8 := by kernel_rfl
theorem spot_none {w : World} {a : Addr} {v : Value} (h : w.cell? a = some v) : a = ⟨a.block, a.off, none⟩ := by
  obtain ⟨b, o, s⟩ := a
  unfold World.cell? at h
  split at h
  · split at h
    · cases h
    · rename_i hs
      cases s with
      | none => rfl
      | some x => simp at hs
  · cases h
theorem add_at {a : Addr} {b o : Nat} (h : a = ⟨b, o, none⟩) (k : Nat) : a.add k = ⟨b, o + k, none⟩ := by subst h; exact Addr.add_lit b o k
section
variable {H : Type} {enc : TypeId × Value → H} {w : World}
set_option maxRecDepth 100000 in
theorem open_offers {fuel : Nat} {cs : List Value} {x : DataW H × List MemPlace} (h : DataW.trod enc Try.prog w 0 (fun _ => true) true fuel 22 cs = some x) :
    ∃ (a : Option Addr) (xs : List Off) (c : Nat), cs = [.slice a xs.length c] ∧ RdO w a xs ∧ xs.length ≤ 9223372036854775807 := by
  rcases open_slice Try.underlying22 h with ⟨hcs, _⟩ | ⟨a, len, cap, m, n, D, Pl, hcs, _, hl, hm, hmm, _, hi⟩
  · exact ⟨none, [], 0, hcs, Rd.nil, by decide⟩
  · have hmc : m = cap := hmm
    subst hmc
    rw [cells_off] at hi
    have each : ∀ i, i < len → ∃ o : Off, w.cell? (a.add (i * 4)) = some (.int .i64 o.A) ∧ w.cell? (a.add (i * 4 + 1)) = some (.int .i64 o.B) ∧ w.cell? (a.add (i * 4 + 2)) = some (.int .i64 o.C) ∧ w.cell? (a.add (i * 4 + 3)) = some (.int .i64 o.W) := by
      intro i hil
      obtain ⟨cs', hc, ht⟩ := hi i (by omega)
      obtain ⟨_, hcl, hat⟩ := World.cells?_some hc
      obtain ⟨y0, y1, y2, y3, n', _, _, h0, h1, h2, h3⟩ := trod_struct4 Try.underlying59 ht
      match cs', hcl with
      | [c0, c1, c2, c3], _ =>
        obtain ⟨k0, e0, _⟩ := DataW.trod_int Try.underlying3 h0
        obtain ⟨k1, e1, _⟩ := DataW.trod_int Try.underlying3 h1
        obtain ⟨k2, e2, _⟩ := DataW.trod_int Try.underlying3 h2
        obtain ⟨k3, e3, _⟩ := DataW.trod_int Try.underlying3 h3
        simp only [cells_int] at e0 e1 e2 e3
        have f0 : c0 = .int .i64 k0 := by simpa using e0
        have f1 : c1 = .int .i64 k1 := by simpa using e1
        have f2 : c2 = .int .i64 k2 := by simpa using e2
        have f3 : c3 = .int .i64 k3 := by simpa using e3
        refine ⟨⟨k0, k1, k2, k3⟩, ?_, ?_, ?_, ?_⟩
        · have := hat 0 (by decide); rw [Go.Deep.add_add, Nat.add_zero] at this; rw [this, f0]; rfl
        · have := hat 1 (by decide); rw [Go.Deep.add_add] at this; rw [this, f1]; rfl
        · have := hat 2 (by decide); rw [Go.Deep.add_add] at this; rw [this, f2]; rfl
        · have := hat 3 (by decide); rw [Go.Deep.add_add] at this; rw [this, f3]; rfl
    have hF : ∃ F : Nat → Off, ∀ i, i < len → w.cell? (a.add (i * 4)) = some (.int .i64 (F i).A) ∧ w.cell? (a.add (i * 4 + 1)) = some (.int .i64 (F i).B) ∧ w.cell? (a.add (i * 4 + 2)) = some (.int .i64 (F i).C) ∧ w.cell? (a.add (i * 4 + 3)) = some (.int .i64 (F i).W) :=
      ⟨fun i => if h : i < len then Classical.choose (each i h) else default, fun i hil => by simp only [dif_pos hil]; exact Classical.choose_spec (each i hil)⟩
    obtain ⟨F, hF⟩ := hF
    refine ⟨some a, (List.range len).map F, m, by simpa using hcs, fun hne => ?_, by simp; unfold maxLen at hm; omega⟩
    have h0 : 0 < len := by
      rcases Nat.eq_zero_or_pos len with e | e
      · subst e; simp at hne
      · exact e
    have hs : a = ⟨a.block, a.off, none⟩ := by
      have := (hF 0 h0).1
      rw [Nat.zero_mul] at this
      exact spot_none (by simpa [Addr.add] using this)
    refine ⟨a.block, a.off, congrArg some hs, fun i o ho j v hv => ?_⟩
    have hil : i < len := by
      rcases Nat.lt_or_ge i len with h' | h'
      · exact h'
      · rw [List.getElem?_eq_none (by simpa using h')] at ho; cases ho
    obtain rfl : F i = o := by simpa [hil] using ho
    obtain ⟨g0, g1, g2, g3⟩ := hF i hil
    rw [add_at hs] at g0 g1 g2 g3
    rcases j with _ | _ | _ | _ | j
    · obtain rfl : Value.int .i64 (F i).A = v := by simpa [encO] using hv
      exact g0
    · obtain rfl : Value.int .i64 (F i).B = v := by simpa [encO] using hv
      exact g1
    · obtain rfl : Value.int .i64 (F i).C = v := by simpa [encO] using hv
      exact g2
    · obtain rfl : Value.int .i64 (F i).W = v := by simpa [encO] using hv
      exact g3
    · simp [encO] at hv
set_option maxRecDepth 100000 in
theorem open_market {r : Reach} {b0 : Nat} {v : Value} {d : DataW H} {p : List MemPlace} (hv : Value.okWide Try.prog w r b0 24 v) (h : DataW.Trod enc Try.prog w 0 (fun _ => true) true 24 v d p) : ∃ m : Mk, MkRd w m v := by
  obtain ⟨v0, v1, v2, y0, y1, y2, n, rfl, _, _, h0, h1, h2⟩ := open_agg3 Try.underlying24 (by kernel_rfl) (by kernel_rfl) hv h
  obtain ⟨k, e0, _⟩ := DataW.trod_int Try.underlying3 h0
  obtain ⟨ka, ks, kc, e1, hk, hkl⟩ := open_offers h1
  obtain ⟨oa, os, oc, e2, ho, hol⟩ := open_offers h2
  obtain rfl : v0 = .int .i64 k := by simpa using e0
  obtain rfl : v1 = .slice ka ks.length kc := by simpa using e1
  obtain rfl : v2 = .slice oa os.length oc := by simpa using e2
  exact ⟨⟨k, ks, os⟩, ka, kc, oa, oc, rfl, hk, ho, hkl, hol⟩
/-- A slice of ints that came in: its numbers, and that they fit a process's memory. -/
theorem open_nums {ts : List TypeId} {ds : List (DataW H)} {j : Nat} {a : Option Addr} {len cap : Nat} {d : DataW H} {ps : List MemPlace} (hsz : (DataW.weightsEach Try.prog ts ds).all (· ≤ reachBytes) = true) (ht : ts[j]? = some 27) (hd : ds[j]? = some d)
    (h : DataW.Trod enc Try.prog w 0 (fun _ => true) true 27 (.slice a len cap) d ps) : ∃ l : List Int, l.length = len ∧ RdI w a l ∧ len ≤ 140737488355328 := by
  obtain ⟨fuel, hf⟩ := h
  rcases open_ints Try.underlying27 Try.underlying3 cells_int hf with ⟨hcs, _⟩ | ⟨x, l, c, zs, hcs, _, hl, _, hz, hx, hcell, _⟩
  · simp [Value.cells] at hcs
    obtain ⟨rfl, rfl, rfl⟩ := hcs
    exact ⟨[], rfl, Rd.nil, by decide⟩
  · simp [Value.cells] at hcs
    obtain ⟨rfl, rfl, rfl⟩ := hcs
    have hzl : zs.length = cap := hz
    obtain ⟨hx, _⟩ := Prod.mk.inj hx
    subst hx
    have z := sized_slice hsz ht hd Try.underlying27
    refine ⟨zs.take len, by rw [List.length_take]; omega, fun hne => ?_, ?_⟩
    · have h0 : 0 < len := by
        rcases Nat.eq_zero_or_pos len with e | e
        · subst e; simp at hne
        · exact e
      have hs : x = ⟨x.block, x.off, none⟩ := by
        have := hcell 0 (by omega)
        exact spot_none (by simpa [Addr.add] using this)
      refine ⟨x.block, x.off, congrArg some hs, fun i y hy j v hv => ?_⟩
      have hil : i < len := by
        rcases Nat.lt_or_ge i len with h' | h'
        · exact h'
        · rw [List.getElem?_eq_none (by rw [List.length_take]; omega)] at hy; cases hy
      rw [List.getElem?_take, if_pos hil] at hy
      rcases j with _ | j
      · obtain rfl : Value.int .i64 y = v := by simpa [encI] using hv
        have := hcell i (by omega)
        rw [add_at hs] at this
        rw [Nat.mul_one, Nat.add_zero, this, List.getD_eq_getElem?_getD, hy]; rfl
      · simp [encI] at hv
    · rw [bytes_int] at z
      have h1 : (lits (H := H) .i64 (zs.take len)).length = len := by simp [lits]; omega
      rw [h1] at z
      unfold reachBytes at z
      omega
end
end Go.Proofs.Ytjdldmecjhddnaa
