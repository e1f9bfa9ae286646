/- The contract of slices.Clone of lists of pairs. -/
import Derived.Test.YtjdldmecjhddnaaKRows
import Derived.Test.YtjdldmecjhddnaaKBld
import Derived.Test.YtjdldmecjhddnaaKM9
namespace Go.Proofs.Ytjdldmecjhddnaa
open Go.RowKit
set_option linter.unusedVariables false
set_option linter.unusedSimpArgs false

theorem own_free1 {w : World} {base : Nat} {e : TypeId} {g n cp k : Nat} {vs : List Value} (h : w.ownsRow base e k (.slice (some ⟨g, 0, none⟩) n cp) n vs) (b : Nat) : w.frozen? ⟨g, b, none⟩ = false := by
  rcases h.2 with ⟨h1, _⟩ | ⟨g', cap, cur, e1, _, hh, _⟩
  · cases h1
  · injection e1 with e2 _ _
    injection e2 with e2
    injection e2 with e2
    subst e2
    simp [World.frozen?, hh]
/-- A copy of a list of rows: its block, and the rows that it shares. -/
def RetClo (w w' : World) (e : Ending) (n : Nat) (R : Nat → List (Int × Int)) : Prop :=
  ∃ (ra : Nat → Option Addr) (rc : Nat → Nat) (G cap : Nat), e = .returned (.slice (some ⟨G, 0, none⟩) n cap) ∧ (∀ b, b < n → RdP w (ra b) (R b)) ∧
    (∀ b, b < n → w'.cell? ⟨G, b, none⟩ = some (.slice (ra b) (R b).length (rc b)) ∧ w'.frozen? ⟨G, b, none⟩ = false) ∧ w.heap.size ≤ G ∧ Below w.heap.size w w'
theorem rdLL_rows {w : World} {a : Option Addr} {n : Nat} {R : Nat → List (Int × Int)} (hn : 0 < n) (h : RdLL w a ((List.range n).map R)) :
    ∃ (b off : Nat) (ra : Nat → Option Addr) (rc : Nat → Nat), a = some ⟨b, off, none⟩ ∧ ∀ i, i < n → w.cell? ⟨b, off + i, none⟩ = some (.slice (ra i) (R i).length (rc i)) ∧ RdP w (ra i) (R i) := by
  obtain ⟨b, off, e, hc⟩ := h (by intro e; have := congrArg List.length e; simp at this; omega)
  have hx : ∀ i, i < n → ∃ q : Option Addr × Nat, w.cell? ⟨b, off + i, none⟩ = some (.slice q.1 (R i).length q.2) ∧ RdP w q.1 (R i) := fun i hi => by
    obtain ⟨ra, rc, h1, h2⟩ := hc i (R i) (rows_at R hi)
    exact ⟨(ra, rc), h1, h2⟩
  refine ⟨b, off, fun i => if h : i < n then (Classical.choose (hx i h)).1 else none, fun i => if h : i < n then (Classical.choose (hx i h)).2 else 0, e, fun i hi => ?_⟩
  simp only [dif_pos hi]
  exact Classical.choose_spec (hx i hi)
set_option maxHeartbeats 4000000 in
set_option maxRecDepth 100000 in
theorem c_CloneLL (R : Nat → List (Int × Int)) (n : Nat) (a : Option Addr) (c : Nat) (w : World) (hn : 2 ≤ n) (h8 : n ≤ 8) (hr : RdLL w a ((List.range n).map R)) :
    Calls Try.prog 32 #[.slice a n c] w fun e w' => RetClo w w' e n R := by
  have q22 : ∀ (w : World) (a : Option Addr) (n c n' c' : Nat), (binOp .eql 44 (.slice a n c) (.slice none n' c')).run Try.prog w = .ok (.bool a.isNone) w := fun w a n c n' c' => Lib.run_eql_slice_nil w _ _ a n c n' c' Try.underlying44
  obtain ⟨b, off, ra, rc, rfl, hc⟩ := rdLL_rows (by omega) hr
  obtain ⟨i0, hi, hz0, hz1, hz2⟩ := info_parts info_pairs
  have HI := Lib.hid hi
  have HZ0 := Lib.hid hz0
  have HZ1 := Lib.hid hz1
  have HZ2 := Lib.hid hz2
  have HC := Lib.hid hc
  obtain ⟨vs, hvs⟩ : ∃ vs : List Value, vs = (List.range n).map fun i => Value.slice (ra i) (R i).length (rc i) := ⟨_, rfl⟩
  have hlen := Lib.hid (show vs.length = n * 1 from by rw [hvs]; simp)
  have hat := Lib.hid (show ∀ j u, vs[j]? = some u → j < n ∧ u = Value.slice (ra j) (R j).length (rc j) from fun j u hu => by rw [hvs] at hu; exact range_at hu)
  have hcs := Lib.hid (show ∀ j u, vs[j]? = some u → w.cell? ((⟨b, off, none⟩ : Addr).add j) = some u from fun j u hu => by
    obtain ⟨hj, rfl⟩ := hat.out j u hu
    rw [Addr.add_lit]
    exact (HC.out j hj).1)
  have HVS := Lib.hid hvs
  clear hi hz0 hz1 hz2 hr hc hvs
  go_enter Try.func32, Try.ntmps32
  go_wp2_with (at_builtin; refine wpList_append_own _ rfl _ _ 44 rfl w.heap.size 48 i0 (.slice none 0 0) 1 24 Try.underlying44 HI.out HZ0.out HZ1.out HZ2.out rfl (by decide) _ _ _ rfl (World.ownsRow_made w #[] 0 (Nat.le_refl _) (Nat.zero_le _) (by simp)) ⟨b, off, none⟩ n c vs rfl hlen.out (fun j u hu => cal (hcs.out j u hu) _) ?c2 ?c3 ?c4 ?c5 ?_)
  case c2 =>
    intro u hu
    obtain ⟨j, hj, e⟩ := List.mem_iff_getElem.1 hu
    obtain ⟨_, rfl⟩ := hat.out j u (by rw [List.getElem?_eq_getElem hj, e])
    rfl
  case c3 => unfold maxLen; omega
  case c4 => omega
  case c5 => simp
  · intro v' w1 hown hgr _
    have hown2 : w1.ownsRow w.heap.size 48 1 v' n vs := by simpa using hown
    have HB := Lib.hid (show Below w.heap.size w w1 from (bal (Below.refl _ _) _).grown hgr (by simp) (fun j e => by simp [Value.ownBlock] at e; omega))
    obtain ⟨G, cap, hv, hG⟩ : ∃ G cap, v' = .slice (some ⟨G, 0, none⟩) n cap ∧ w.heap.size ≤ G := by
      rcases hown2.2 with ⟨_, h0⟩ | ⟨G, cap, cur, e, hbG, _⟩
      · omega
      · exact ⟨G, cap, e, hbG⟩
    subst hv
    have HO := Lib.hid hown2
    clear hown hgr hown2
    go_wp2
    go_ret
    refine ⟨ra, rc, G, cap, rfl, fun i hi => (HC.out i hi).2, fun i hi => ⟨?_, own_free1 HO.out i⟩, hG, HB.out⟩
    have := HO.out.cells (g := G) rfl i (.slice (ra i) (R i).length (rc i)) (by rw [HVS.out]; exact rows_at _ hi)
    simpa [Addr.add_lit] using this
/-- Two rows change places. -/
theorem exch_rd {w0 w : World} {G n x y : Nat} {ra : Nat → Option Addr} {rc : Nat → Nat} {R : Nat → List (Int × Int)} (hx : x < n) (hy : y < n) (hxy : x ≠ y) (hr : ∀ b, b < n → RdP w0 (ra b) (R b)) (hk : KpC G G w0 w) (hG : w0.heap.size ≤ G)
    (hc : ∀ b, b < n → w.cell? ⟨G, b, none⟩ = some (.slice (ra b) (R b).length (rc b))) :
    RdLL ((w.setCell ⟨G, x, none⟩ (.slice (ra y) (R y).length (rc y))).setCell ⟨G, y, none⟩ (.slice (ra x) (R x).length (rc x))) (some ⟨G, 0, none⟩) ((List.range n).map (exch R x y)) := by
  have hk2 := (hk.set (p := ⟨G, x, none⟩) (.slice (ra y) (R y).length (rc y)) (.inl rfl)).set (p := ⟨G, y, none⟩) (.slice (ra x) (R x).length (rc x)) (.inl rfl)
  have far : ∀ (W : World) j k u v, j ≠ k → W.cell? ⟨G, j, none⟩ = some v → (W.setCell ⟨G, k, none⟩ u).cell? ⟨G, j, none⟩ = some v := fun W j k u v hjk hv => by
    rw [World.cell?_setCell_other _ _ _ _ (by intro e; injection e with _ e2; omega)]; exact hv
  have hrd : ∀ b, b < n → RdP ((w.setCell ⟨G, x, none⟩ (.slice (ra y) (R y).length (rc y))).setCell ⟨G, y, none⟩ (.slice (ra x) (R x).length (rc x))) (ra b) (R b) := fun b hb hne => by
    obtain ⟨bb, off, e, h1⟩ := hr b hb hne
    refine ⟨bb, off, e, fun i q hq j v hv => ?_⟩
    have h2 := h1 i q hq j v hv
    have h3 := World.block_lt_of_cell? w0 _ h2
    have h4 : bb ≠ G := by simp at h3; omega
    exact hk2.cell _ _ h4 h4 h2
  refine fun _ => ⟨G, 0, rfl, fun i l hl => ?_⟩
  obtain ⟨hi, rfl⟩ := range_at hl
  rw [Nat.zero_add]
  unfold exch
  by_cases e1 : i = y
  · subst e1
    rw [if_pos rfl]
    exact ⟨ra x, rc x, World.cell?_setCell_same _ _ _ (far _ _ _ _ _ (fun e => hxy e.symm) (hc i hi)), hrd x hx⟩
  · rw [if_neg e1]
    by_cases e2 : i = x
    · subst e2
      rw [if_pos rfl]
      exact ⟨ra y, rc y, far _ _ _ _ _ e1 (World.cell?_setCell_same _ _ _ (hc i hi)), hrd y hy⟩
    · rw [if_neg e2]
      exact ⟨ra i, rc i, far _ _ _ _ _ e1 (far _ _ _ _ _ e2 (hc i hi)), hrd i hi⟩
end Go.Proofs.Ytjdldmecjhddnaa
