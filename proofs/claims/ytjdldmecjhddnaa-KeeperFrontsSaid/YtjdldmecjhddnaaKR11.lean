/- The contract of the reference's put. -/
import Derived.Test.YtjdldmecjhddnaaKM14
import Derived.Test.YtjdldmecjhddnaaK17
namespace Go.Proofs.Ytjdldmecjhddnaa
open Go.RowKit
set_option linter.unusedVariables false
set_option linter.unusedSimpArgs false

/-- What came back: a slice that reads as l, the one that was given or a new one. -/
def RetPairs (w w' : World) (la : Option Addr) (e : Ending) (l : List (Int × Int)) : Prop := ∃ va vc, e = .returned (.slice va l.length vc) ∧ RdP w' va l ∧ (va = la ∨ ∀ ad, va = some ad → w.heap.size ≤ ad.block) ∧ Below w.heap.size w w'
theorem putF_dom {l : List (Int × Int)} {p q : Int × Int} (hq : q ∈ l) (hd : domB q p = true) : putF l p = l := by
  unfold putF; exact if_pos (List.any_eq_true.2 ⟨q, hq, hd⟩)
theorem putF_not {l : List (Int × Int)} {p : Int × Int} (h : ∀ q ∈ l, domB q p = false) : putF l p = putE p (l.foldl (putS p) ([], false)) := by
  unfold putF
  refine if_neg (fun ha => ?_)
  obtain ⟨q, hq, hd⟩ := List.any_eq_true.1 ha
  rw [h q hq] at hd; cases hd
theorem putS_skip {p q : Int × Int} {s : List (Int × Int) × Bool} (h1 : p.1 ≤ q.1) (h2 : p.2 ≤ q.2) : putS p s q = s := by
  unfold putS; rw [if_pos (domB_iff.2 ⟨h1, h2⟩)]
theorem putS_both {p q : Int × Int} {o : List (Int × Int)} (h2 : ¬ p.2 ≤ q.2) (h3 : p.1 < q.1) : putS p (o, false) q = (o ++ [p] ++ [q], true) := by
  unfold putS; rw [if_neg (fun h => h2 (domB_iff.1 h).2), if_pos ⟨rfl, h3⟩]
theorem putS_one {p q : Int × Int} {o : List (Int × Int)} {b : Bool} (h : ¬ (p.1 ≤ q.1 ∧ p.2 ≤ q.2)) (h3 : b = true ∨ ¬ p.1 < q.1) : putS p (o, b) q = (o ++ [q], b) := by
  unfold putS; rw [if_neg (fun e => h (domB_iff.1 e)), if_neg (fun e => by rcases h3 with h3 | h3; rw [h3] at e; exact absurd e.1 (by simp); exact h3 e.2)]
set_option maxHeartbeats 8000000 in
set_option maxRecDepth 100000 in
theorem r_put (l : List (Int × Int)) (p : Int × Int) (la : Option Addr) (n lc : Nat) (w : World) (hn : l.length = n) (hl : RdP w la l) (hll : n ≤ 100000) :
    Calls Try.prog 95 #[.slice la n lc, .agg #[.int .i64 p.1, .int .i64 p.2]] w fun e w' => RetPairs w w' la e (putF l p) := by
  have HN := Lib.hid hn
  have HL := Lib.hid hl
  clear hn hl
  go_enter Try.func95, Try.ntmps95
  go_wp2_with fail
  have hb0 : Below w.heap.size w (w.alloc (.cells #[.int .i64 p.1, .int .i64 p.2] 54)) := bal (Below.refl _ _) _
  obtain ⟨w0, hw0⟩ : ∃ w0, w0 = w.alloc (.cells #[.int .i64 p.1, .int .i64 p.2] 54) := ⟨_, rfl⟩
  have X0 := Lib.hid (show w0.cell? ⟨w.heap.size, 0, none⟩ = some (.int .i64 p.1) from by rw [hw0]; simp)
  have X1 := Lib.hid (show w0.cell? ⟨w.heap.size, 1, none⟩ = some (.int .i64 p.2) from by rw [hw0]; simp)
  have hsz : w0.heap.size = w.heap.size + 1 := by rw [hw0]; simp
  rw [← hw0] at hb0 ⊢
  have HB0 := Lib.hid hb0
  have HSZ := Lib.hid hsz
  clear hw0 hb0 hsz
  go_loopw [6] (fun i wr => ∃ k : Nat, k ≤ n ∧ i = .int .i64 k ∧ Hid (∀ j, j < k → ∀ q, l[j]? = some q → domB q p = false) ∧ Below w0.heap.size w0 wr) (fun i _ => n - (intOf i).toNat)
  case atStart => exact ⟨0, Nat.zero_le _, rfl, Lib.hid (fun j h => absurd h (Nat.not_lt_zero _)), Below.refl _ _⟩
  case round =>
    obtain ⟨k, hk, rfl, hall, hB⟩ := hrel
    have hBw := Lib.hid (bthen HB0.out hB)
    by_cases hlt : k < n
    · have x0 := below_cell hB X0.out
      have x1 := below_cell hB X1.out
      obtain ⟨b1, off1, q, rfl, h1, c1, c2⟩ := (HL.out.below hBw.out).atp (i := k) (by rw [HN.out]; exact hlt)
      have H1 := Lib.hid h1
      have HB := Lib.hid hB
      clear h1 hB
      by_cases g1 : q.1 ≤ p.1
      · have d1 : decide (q.1 ≤ p.1) = true := decide_eq_true g1
        by_cases g2 : q.2 ≤ p.2
        · have d2 : decide (q.2 ≤ p.2) = true := decide_eq_true g2
          have HF := Lib.hid (show putF l p = l from putF_dom (List.mem_of_getElem? H1.out) (domB_iff.2 ⟨g1, g2⟩))
          go_wp2
          go_quiet (fail)
          go_wp2
          go_ret
          rw [HF.out]
          exact ⟨_, lc, by rw [HN.out]; rfl, HL.out.below (bdrN hBw.out _), .inl rfl, bdrN hBw.out _⟩
        · have d2 : decide (q.2 ≤ p.2) = false := decide_eq_false g2
          have HD := Lib.hid (show domB q p = false from by unfold domB; rw [d2, Bool.and_false])
          go_wp2
          go_quiet (fail)
          go_wp2
          go_roundw
          case rel =>
            refine ⟨k + 1, by omega, by go_num, Lib.hid (fun j hj u hu => ?_), bdrN HB.out _⟩
            by_cases e : j = k
            · subst e; rw [H1.out] at hu; cases hu; exact HD.out
            · exact hall.out j (by omega) u hu
          case measure => simp [intOf]; omega
      · have d1 : decide (q.1 ≤ p.1) = false := decide_eq_false g1
        have HD := Lib.hid (show domB q p = false from by unfold domB; rw [d1, Bool.false_and])
        go_wp2
        go_quiet (fail)
        go_wp2
        go_roundw
        case rel =>
          refine ⟨k + 1, by omega, by go_num, Lib.hid (fun j hj u hu => ?_), bdrN HB.out _⟩
          by_cases e : j = k
          · subst e; rw [H1.out] at hu; cases hu; exact HD.out
          · exact hall.out j (by omega) u hu
        case measure => simp [intOf]; omega
    · obtain rfl : k = n := by omega
      have HF := Lib.hid (show putF l p = putE p (l.foldl (putS p) ([], false)) from by
        refine putF_not (fun q hq => ?_)
        obtain ⟨i, hi, e⟩ := List.mem_iff_getElem.1 hq
        exact hall.out i (by rw [← HN.out]; exact hi) q (by rw [List.getElem?_eq_getElem hi, e]))
      have HB := Lib.hid hB
      clear hB hBw hall
      go_wp2_with fail
      go_loopw [5, 7, 8] (fun v d i wr => ∃ k2 : Nat, k2 ≤ k ∧ i = .int .i64 k2 ∧ (∃ (b : Bool) (o : List (Int × Int)), d = .bool b ∧ Hid ((l.take k2).foldl (putS p) ([], false) = (o, b)) ∧ Hid (o.length ≤ k2 + (if b = true then 1 else 0)) ∧ wr.ownsRow (w.heap.size + 1) 54 2 v o.length (o.flatMap encP)) ∧ Below w0.heap.size w0 wr) (fun _ _ i _ => k - (intOf i).toNat)
      case atStart => exact ⟨0, Nat.zero_le _, rfl, ⟨false, [], rfl, Lib.hid (by simp), Lib.hid (by simp), World.ownsRow_nil _ _ _ _⟩, HB.out⟩
      case round =>
        clear HB
        obtain ⟨k2, hk2, rfl, ⟨b, o, rfl, hfo, hol, hown⟩, hB⟩ := hrel
        have hol2 : o.length ≤ k2 + 1 := by have := hol.out; cases b <;> simp at this <;> omega
        have hBw := Lib.hid (bthen HB0.out hB)
        have hws := hB.size
        rw [HSZ.out] at hws
        by_cases hlt2 : k2 < k
        · have x0 := below_cell hB X0.out
          have x1 := below_cell hB X1.out
          obtain ⟨b1, off1, q, rfl, h1, c1, c2⟩ := (HL.out.below hBw.out).atp (i := k2) (by rw [HN.out]; exact hlt2)
          have H1 := Lib.hid h1
          have HB := Lib.hid hB
          have HOWN := Lib.hid hown
          clear h1 hB hown
          have HLB := Lib.hid (show b1 < w.heap.size from by
            obtain ⟨b3, off3, q3, e3, _, d3, _⟩ := HL.out.atp (i := k2) (by rw [HN.out]; exact hlt2)
            injection e3 with e3; injection e3 with e3 _; subst e3
            exact World.block_lt_of_cell? w _ d3)
          by_cases g1 : p.1 ≤ q.1
          · have d1 : decide (p.1 ≤ q.1) = true := decide_eq_true g1
            by_cases g2 : p.2 ≤ q.2
            · have d2 : decide (p.2 ≤ q.2) = true := decide_eq_true g2
              go_wp2
              go_quiet (fail)
              obtain ⟨wq, hwq⟩ : ∃ W9 : World, W9 = wr.drewN nq := ⟨_, rfl⟩
              rw [← hwq]
              have hd : Below wr.heap.size wr wq := by rw [hwq]; exact bdrN (Below.refl _ _) nq
              replace x0 := below_cell hd x0
              replace x1 := below_cell hd x1
              replace c1 := below_cell hd c1
              replace c2 := below_cell hd c2
              replace HB := Lib.hid (bthen HB.out hd)
              replace HOWN := Lib.hid (own_below HOWN.out hd)
              clear hd hwq
              go_wp2
              go_roundw
              case rel => exact ⟨k2 + 1, by omega, by go_num, ⟨b, o, rfl, Lib.hid (by rw [fold_take H1.out, hfo.out]; exact putS_skip g1 g2), Lib.hid (Nat.le_trans hol.out (Nat.add_le_add_right (Nat.le_succ _) _)), HOWN.out⟩, HB.out⟩
              case measure => simp [intOf]; omega
            · have d2 : decide (p.2 ≤ q.2) = false := decide_eq_false g2
              cases b with
              | true =>
                go_wp2
                go_quiet (fail)
                obtain ⟨wq, hwq⟩ : ∃ W9 : World, W9 = wr.drewN nq := ⟨_, rfl⟩
                rw [← hwq]
                have hd : Below wr.heap.size wr wq := by rw [hwq]; exact bdrN (Below.refl _ _) nq
                replace x0 := below_cell hd x0
                replace x1 := below_cell hd x1
                replace c1 := below_cell hd c1
                replace c2 := below_cell hd c2
                replace HB := Lib.hid (bthen HB.out hd)
                replace HOWN := Lib.hid (own_below HOWN.out hd)
                clear hd hwq
                go_wp2
                go_quiet (fail)
                obtain ⟨wp, hwq⟩ : ∃ W9 : World, W9 = wq.drewN nq := ⟨_, rfl⟩
                rw [← hwq]
                have hd : Below wq.heap.size wq wp := by rw [hwq]; exact bdrN (Below.refl _ _) nq
                replace x0 := below_cell hd x0
                replace x1 := below_cell hd x1
                replace c1 := below_cell hd c1
                replace c2 := below_cell hd c2
                replace HB := Lib.hid (bthen HB.out hd)
                replace HOWN := Lib.hid (own_below HOWN.out hd)
                clear hd hwq
                go_wp2_with (at_builtin; refine ap1 rfl _ _ 48 rfl (w.heap.size + 1) 54 (.agg #[.int .i64 0, .int .i64 0]) 2 16 info_pair Try.underlying48 rfl (by decide) (by decide) _ _ _ rfl HOWN.out [.int .i64 q.1, .int .i64 q.2] rfl rfl rfl ?hN ?hW ?_; (case hN => ((try simp only [List.length_append, List.length_cons, List.length_nil]); omega)); (case hW => (have := HB.out.size; rw [HSZ.out] at this; exact this)); intro v5 w5 hown5 hgr hat hnn)
                go_wp2
                go_roundw
                case rel => exact ⟨k2 + 1, by omega, by go_num, ⟨true, o ++ [q], rfl, Lib.hid (by rw [fold_take H1.out, hfo.out]; exact putS_one (by omega) (.inl rfl)), Lib.hid (by have := hol.out; simp at this ⊢; omega), by rw [flat_snoc, List.length_append]; exact hown5⟩, HB.out.grown hgr HB.out.size (fun j e => by have := (HOWN.out.lt j e).1; rw [HSZ.out]; omega)⟩
                case measure => simp [intOf]; omega
              | false =>
                by_cases g3 : p.1 < q.1
                · have d3 : decide (p.1 < q.1) = true := decide_eq_true g3
                  have HNB := Lib.hid (show ∀ c : Nat, c = b1 → ¬ w.heap.size + 1 ≤ c from fun c e => by
                    have := HLB.out; omega)
                  go_wp2
                  go_quiet (fail)
                  obtain ⟨wq, hwq⟩ : ∃ W9 : World, W9 = wr.drewN nq := ⟨_, rfl⟩
                  rw [← hwq]
                  have hd : Below wr.heap.size wr wq := by rw [hwq]; exact bdrN (Below.refl _ _) nq
                  replace x0 := below_cell hd x0
                  replace x1 := below_cell hd x1
                  replace c1 := below_cell hd c1
                  replace c2 := below_cell hd c2
                  replace HB := Lib.hid (bthen HB.out hd)
                  replace HOWN := Lib.hid (own_below HOWN.out hd)
                  clear hd hwq
                  go_wp2
                  go_quiet (fail)
                  obtain ⟨wp, hwq⟩ : ∃ W9 : World, W9 = wq.drewN nq := ⟨_, rfl⟩
                  rw [← hwq]
                  have hd : Below wq.heap.size wq wp := by rw [hwq]; exact bdrN (Below.refl _ _) nq
                  replace x0 := below_cell hd x0
                  replace x1 := below_cell hd x1
                  replace c1 := below_cell hd c1
                  replace c2 := below_cell hd c2
                  replace HB := Lib.hid (bthen HB.out hd)
                  replace HOWN := Lib.hid (own_below HOWN.out hd)
                  clear hd hwq
                  have tok1 : True := trivial
                  go_wp2_with (first
                    | (at_builtin; have _t := tok1; refine ap1 rfl _ _ 48 rfl (w.heap.size + 1) 54 (.agg #[.int .i64 0, .int .i64 0]) 2 16 info_pair Try.underlying48 rfl (by decide) (by decide) _ _ _ rfl HOWN.out [.int .i64 p.1, .int .i64 p.2] rfl rfl rfl ?hN ?hW ?_; (case hN => ((try simp only [List.length_append, List.length_cons, List.length_nil]); omega)); (case hW => (have := HB.out.size; rw [HSZ.out] at this; exact this)); intro v4 w4 hown5 hgr hat hnn; have hlow := fun j (e : Value.ownBlock _ = some j) => (HOWN.out.lt j e).1; have hB4 := HB.out.grown hgr HB.out.size (fun j e => by have := hlow j e; rw [HSZ.out]; omega); replace c1 : w4.cell? ⟨b1, off1 + k2 * 2, none⟩ = some (.int .i64 q.1) := grown_cell hgr c1 (fun e => HNB.out b1 rfl (hlow b1 e)); replace c2 : w4.cell? ⟨b1, off1 + k2 * 2 + 1, none⟩ = some (.int .i64 q.2) := grown_cell hgr c2 (fun e => HNB.out b1 rfl (hlow b1 e)); replace HB := Lib.hid hB4; replace HOWN := Lib.hid (show w4.ownsRow (w.heap.size + 1) 54 2 v4 (o ++ [p]).length ((o ++ [p]).flatMap encP) from by rw [flat_snoc, List.length_append]; exact hown5); clear hown5 hgr hat hnn hB4 hlow x0 x1 tok1)
                    | (at_builtin; refine ap1 rfl _ _ 48 rfl (w.heap.size + 1) 54 (.agg #[.int .i64 0, .int .i64 0]) 2 16 info_pair Try.underlying48 rfl (by decide) (by decide) _ _ _ rfl HOWN.out [.int .i64 q.1, .int .i64 q.2] rfl rfl rfl ?hN ?hW ?_; (case hN => ((try simp only [List.length_append, List.length_cons, List.length_nil]); omega)); (case hW => (have := HB.out.size; rw [HSZ.out] at this; exact this)); intro v5 w5 hown5 hgr hat hnn))
                  go_roundw
                  case rel => exact ⟨k2 + 1, by omega, by go_num, ⟨true, o ++ [p] ++ [q], rfl, Lib.hid (by rw [fold_take H1.out, hfo.out]; exact putS_both (by omega) (by omega)), Lib.hid (by have := hol.out; simp at this ⊢; omega), by rw [flat_snoc, List.length_append]; exact hown5⟩, HB.out.grown hgr HB.out.size (fun j e => by have := (HOWN.out.lt j e).1; rw [HSZ.out]; omega)⟩
                  case measure => simp [intOf]; omega
                · have d3 : decide (p.1 < q.1) = false := decide_eq_false g3
                  go_wp2
                  go_quiet (fail)
                  obtain ⟨wq, hwq⟩ : ∃ W9 : World, W9 = wr.drewN nq := ⟨_, rfl⟩
                  rw [← hwq]
                  have hd : Below wr.heap.size wr wq := by rw [hwq]; exact bdrN (Below.refl _ _) nq
                  replace x0 := below_cell hd x0
                  replace x1 := below_cell hd x1
                  replace c1 := below_cell hd c1
                  replace c2 := below_cell hd c2
                  replace HB := Lib.hid (bthen HB.out hd)
                  replace HOWN := Lib.hid (own_below HOWN.out hd)
                  clear hd hwq
                  go_wp2
                  go_quiet (fail)
                  obtain ⟨wp, hwq⟩ : ∃ W9 : World, W9 = wq.drewN nq := ⟨_, rfl⟩
                  rw [← hwq]
                  have hd : Below wq.heap.size wq wp := by rw [hwq]; exact bdrN (Below.refl _ _) nq
                  replace x0 := below_cell hd x0
                  replace x1 := below_cell hd x1
                  replace c1 := below_cell hd c1
                  replace c2 := below_cell hd c2
                  replace HB := Lib.hid (bthen HB.out hd)
                  replace HOWN := Lib.hid (own_below HOWN.out hd)
                  clear hd hwq
                  go_wp2_with (at_builtin; refine ap1 rfl _ _ 48 rfl (w.heap.size + 1) 54 (.agg #[.int .i64 0, .int .i64 0]) 2 16 info_pair Try.underlying48 rfl (by decide) (by decide) _ _ _ rfl HOWN.out [.int .i64 q.1, .int .i64 q.2] rfl rfl rfl ?hN ?hW ?_; (case hN => ((try simp only [List.length_append, List.length_cons, List.length_nil]); omega)); (case hW => (have := HB.out.size; rw [HSZ.out] at this; exact this)); intro v5 w5 hown5 hgr hat hnn)
                  go_wp2
                  go_roundw
                  case rel => exact ⟨k2 + 1, by omega, by go_num, ⟨false, o ++ [q], rfl, Lib.hid (by rw [fold_take H1.out, hfo.out]; exact putS_one (by omega) (.inr (by omega))), Lib.hid (by have := hol.out; simp at this ⊢; omega), by rw [flat_snoc, List.length_append]; exact hown5⟩, HB.out.grown hgr HB.out.size (fun j e => by have := (HOWN.out.lt j e).1; rw [HSZ.out]; omega)⟩
                  case measure => simp [intOf]; omega
          · have d1 : decide (p.1 ≤ q.1) = false := decide_eq_false g1
            cases b with
            | true =>
              go_wp2
              go_quiet (fail)
              obtain ⟨wq, hwq⟩ : ∃ W9 : World, W9 = wr.drewN nq := ⟨_, rfl⟩
              rw [← hwq]
              have hd : Below wr.heap.size wr wq := by rw [hwq]; exact bdrN (Below.refl _ _) nq
              replace x0 := below_cell hd x0
              replace x1 := below_cell hd x1
              replace c1 := below_cell hd c1
              replace c2 := below_cell hd c2
              replace HB := Lib.hid (bthen HB.out hd)
              replace HOWN := Lib.hid (own_below HOWN.out hd)
              clear hd hwq
              go_wp2
              go_quiet (fail)
              obtain ⟨wp, hwq⟩ : ∃ W9 : World, W9 = wq.drewN nq := ⟨_, rfl⟩
              rw [← hwq]
              have hd : Below wq.heap.size wq wp := by rw [hwq]; exact bdrN (Below.refl _ _) nq
              replace x0 := below_cell hd x0
              replace x1 := below_cell hd x1
              replace c1 := below_cell hd c1
              replace c2 := below_cell hd c2
              replace HB := Lib.hid (bthen HB.out hd)
              replace HOWN := Lib.hid (own_below HOWN.out hd)
              clear hd hwq
              go_wp2_with (at_builtin; refine ap1 rfl _ _ 48 rfl (w.heap.size + 1) 54 (.agg #[.int .i64 0, .int .i64 0]) 2 16 info_pair Try.underlying48 rfl (by decide) (by decide) _ _ _ rfl HOWN.out [.int .i64 q.1, .int .i64 q.2] rfl rfl rfl ?hN ?hW ?_; (case hN => ((try simp only [List.length_append, List.length_cons, List.length_nil]); omega)); (case hW => (have := HB.out.size; rw [HSZ.out] at this; exact this)); intro v5 w5 hown5 hgr hat hnn)
              go_wp2
              go_roundw
              case rel => exact ⟨k2 + 1, by omega, by go_num, ⟨true, o ++ [q], rfl, Lib.hid (by rw [fold_take H1.out, hfo.out]; exact putS_one (by omega) (.inl rfl)), Lib.hid (by have := hol.out; simp at this ⊢; omega), by rw [flat_snoc, List.length_append]; exact hown5⟩, HB.out.grown hgr HB.out.size (fun j e => by have := (HOWN.out.lt j e).1; rw [HSZ.out]; omega)⟩
              case measure => simp [intOf]; omega
            | false =>
              have g3 : ¬ p.1 < q.1 := by omega
              have d3 : decide (p.1 < q.1) = false := decide_eq_false g3
              go_wp2
              go_quiet (fail)
              obtain ⟨wq, hwq⟩ : ∃ W9 : World, W9 = wr.drewN nq := ⟨_, rfl⟩
              rw [← hwq]
              have hd : Below wr.heap.size wr wq := by rw [hwq]; exact bdrN (Below.refl _ _) nq
              replace x0 := below_cell hd x0
              replace x1 := below_cell hd x1
              replace c1 := below_cell hd c1
              replace c2 := below_cell hd c2
              replace HB := Lib.hid (bthen HB.out hd)
              replace HOWN := Lib.hid (own_below HOWN.out hd)
              clear hd hwq
              go_wp2
              go_quiet (fail)
              obtain ⟨wp, hwq⟩ : ∃ W9 : World, W9 = wq.drewN nq := ⟨_, rfl⟩
              rw [← hwq]
              have hd : Below wq.heap.size wq wp := by rw [hwq]; exact bdrN (Below.refl _ _) nq
              replace x0 := below_cell hd x0
              replace x1 := below_cell hd x1
              replace c1 := below_cell hd c1
              replace c2 := below_cell hd c2
              replace HB := Lib.hid (bthen HB.out hd)
              replace HOWN := Lib.hid (own_below HOWN.out hd)
              clear hd hwq
              go_wp2_with (at_builtin; refine ap1 rfl _ _ 48 rfl (w.heap.size + 1) 54 (.agg #[.int .i64 0, .int .i64 0]) 2 16 info_pair Try.underlying48 rfl (by decide) (by decide) _ _ _ rfl HOWN.out [.int .i64 q.1, .int .i64 q.2] rfl rfl rfl ?hN ?hW ?_; (case hN => ((try simp only [List.length_append, List.length_cons, List.length_nil]); omega)); (case hW => (have := HB.out.size; rw [HSZ.out] at this; exact this)); intro v5 w5 hown5 hgr hat hnn)
              go_wp2
              go_roundw
              case rel => exact ⟨k2 + 1, by omega, by go_num, ⟨false, o ++ [q], rfl, Lib.hid (by rw [fold_take H1.out, hfo.out]; exact putS_one (by omega) (.inr (by omega))), Lib.hid (by have := hol.out; simp at this ⊢; omega), by rw [flat_snoc, List.length_append]; exact hown5⟩, HB.out.grown hgr HB.out.size (fun j e => by have := (HOWN.out.lt j e).1; rw [HSZ.out]; omega)⟩
              case measure => simp [intOf]; omega
        · obtain rfl : k2 = k := by omega
          have x0 := below_cell hB X0.out
          have x1 := below_cell hB X1.out
          have hfo2 : l.foldl (putS p) ([], false) = (o, b) := by rw [← hfo.out, List.take_of_length_le (by rw [HN.out]; exact Nat.le_refl _)]
          cases b with
          | true =>
            have HE := Lib.hid (show putF l p = o from by rw [HF.out, hfo2]; rfl)
            obtain ⟨va, vc, hv, hrd⟩ := own_rd (enc := encP) (k := 2) (fun _ => rfl) hown
            have HRD := Lib.hid hrd
            have HBz := Lib.hid hBw.out
            have HFR := Lib.hid (fun (ad : Addr) (e : va = some ad) => Nat.le_of_succ_le (hown.lt ad.block (by rw [hv, e]; rfl)).1)
            subst hv
            clear hfo2 hown hrd
            go_wp2
            go_ret
            rw [HE.out]
            exact ⟨_, _, rfl, HRD.out, .inr HFR.out, HBz.out⟩
          | false =>
            have HE := Lib.hid (show putF l p = o ++ [p] from by rw [HF.out, hfo2]; rfl)
            have HOWN := Lib.hid hown
            clear hfo2 hown
            have HB := Lib.hid hB
            clear hB
            go_wp2_with (at_builtin; refine ap1 rfl _ _ 48 rfl (w.heap.size + 1) 54 (.agg #[.int .i64 0, .int .i64 0]) 2 16 info_pair Try.underlying48 rfl (by decide) (by decide) _ _ _ rfl HOWN.out [.int .i64 p.1, .int .i64 p.2] rfl rfl rfl ?hN ?hW ?_; (case hN => ((try simp only [List.length_append, List.length_cons, List.length_nil]); omega)); (case hW => (have := HB.out.size; rw [HSZ.out] at this; exact this)); intro v5 w5 hown5 hgr hat hnn; have hown6 : w5.ownsRow (w.heap.size + 1) 54 2 v5 (o ++ [p]).length ((o ++ [p]).flatMap encP) := (by rw [flat_snoc, List.length_append]; exact hown5); have HR6 := Lib.hid (own_rd (enc := encP) (k := 2) (fun _ => rfl) hown6); have HBz := Lib.hid (hBw.out.grown hgr (by omega) (fun j e => by have := (HOWN.out.lt j e).1; omega)); obtain ⟨va, vc, hv, hrd⟩ := HR6.out; have HRD := Lib.hid hrd; have HFR := Lib.hid (fun (ad : Addr) (e : va = some ad) => Nat.le_of_succ_le (hown6.lt ad.block (by rw [hv, e]; rfl)).1); subst hv; clear hown5 hown6 hrd hgr hat hnn HR6)
            go_ret
            rw [HE.out]
            exact ⟨va, vc, by rw [List.length_append]; rfl, HRD.out, .inr HFR.out, HBz.out⟩
end Go.Proofs.Ytjdldmecjhddnaa
