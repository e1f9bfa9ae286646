/- Readings of lists of lists of ints; the contracts of SameRows and of slices.Equal of pairs. -/
import Derived.Test.YtjdldmecjhddnaaK17
namespace Go.Proofs.Ytjdldmecjhddnaa
open Go.RowKit
set_option linter.unusedVariables false
set_option linter.unusedSimpArgs false

/-- The slice at a reads as ll, a list of lists of ints. -/
def RdLI (w : World) (a : Option Addr) (ll : List (List Int)) : Prop :=
  ll ≠ [] → ∃ b off, a = some ⟨b, off, none⟩ ∧ ∀ i l, ll[i]? = some l → ∃ ra rc, w.cell? ⟨b, off + i, none⟩ = some (.slice ra l.length rc) ∧ RdI w ra l
theorem RdLI.nil {w : World} {a : Option Addr} : RdLI w a [] := fun h => absurd rfl h
theorem RdLI.below {w w' : World} {a : Option Addr} {ll : List (List Int)} (h : RdLI w a ll) (hb : Below w.heap.size w w') : RdLI w' a ll := by
  intro hne
  obtain ⟨b, off, e, hc⟩ := h hne
  refine ⟨b, off, e, fun i l hl => ?_⟩
  obtain ⟨ra, rc, h1, h2⟩ := hc i l hl
  exact ⟨ra, rc, below_cell hb h1, h2.below hb⟩
theorem RdLI.at {w : World} {a : Option Addr} {ll : List (List Int)} (h : RdLI w a ll) {i : Nat} (hi : i < ll.length) :
    ∃ b off l ra rc, a = some ⟨b, off, none⟩ ∧ ll[i]? = some l ∧ w.cell? ⟨b, off + i, none⟩ = some (.slice ra l.length rc) ∧ RdI w ra l := by
  obtain ⟨b, off, e, hc⟩ := h (by intro e; rw [e] at hi; simp at hi)
  obtain ⟨ra, rc, h1, h2⟩ := hc i ll[i] (by simp [hi])
  exact ⟨b, off, _, ra, rc, e, by simp [hi], h1, h2⟩
/-- A table as rows. -/
def tabRows (n : Nat) (d : Nat → Nat → Int) : List (List Int) := (List.range n).map fun a => (List.range n).map fun b => d a b
theorem tabRows_len (n : Nat) (d : Nat → Nat → Int) : (tabRows n d).length = n := by simp [tabRows]
theorem tabRows_row {n : Nat} {d : Nat → Nat → Int} {l : List Int} (h : l ∈ tabRows n d) : l.length = n := by
  obtain ⟨a, _, rfl⟩ := List.mem_map.1 h
  simp
theorem range_at {α : Type} {f : Nat → α} {n i : Nat} {x : α} (h : ((List.range n).map f)[i]? = some x) : i < n ∧ x = f i := by
  rw [List.getElem?_map] at h
  have hi : i < n := by
    rcases Nat.lt_or_ge i n with h' | h'
    · exact h'
    · rw [List.getElem?_eq_none (by simpa using h')] at h; cases h
  rw [List.getElem?_range hi] at h
  exact ⟨hi, by simpa using h.symm⟩
theorem TabF.rd {w : World} {base g : Nat} {f c : Nat → Nat} {n : Nat} {d : Nat → Nat → Int} (h : TabF w base g f c n d) : RdLI w (some ⟨g, 0, none⟩) (tabRows n d) := by
  refine fun _ => ⟨g, 0, rfl, fun i l hl => ?_⟩
  obtain ⟨hi, rfl⟩ := range_at hl
  refine ⟨some ⟨f i, 0, none⟩, c i, by rw [Nat.zero_add, h.row i hi]; simp, fun _ => ⟨f i, 0, rfl, fun j x hx k v hv => ?_⟩⟩
  obtain ⟨hj, rfl⟩ := range_at hx
  rcases k with _ | k
  · obtain rfl : Value.int .i64 (d i j) = v := by simpa [encI] using hv
    have := h.cell i j hi hj
    simpa using this
  · simp [encI] at hv
theorem Tab.rd {w : World} {base : Nat} {v : Value} {n : Nat} {d : Nat → Nat → Int} (h : Tab w base v n d) : ∃ va vc, v = .slice va n vc ∧ RdLI w va (tabRows n d) := by
  obtain ⟨g, cap, f, c, rfl, hT⟩ := h
  exact ⟨_, _, rfl, hT.rd⟩
/-- A width as it is handed back: -1 if it is not known. -/
def unk (x : Int) : Int := if 1099511627776 ≤ x then -1 else x
/-- What Widths hands back. -/
def widthsF (m : Mk) (l : List Int) : List (List Int) × Int := if askE m l [] [] ≠ 0 then ([], askE m l [] []) else (tabRows m.n.toNat (fun a b => unk (wd m.n.toNat (comps m l) a b)), 0)
theorem widthsF_len (m : Mk) (l : List Int) : (widthsF m l).1.length ≤ 8 ∧ ∀ r ∈ (widthsF m l).1, r.length ≤ 8 := by
  unfold widthsF
  split
  · simp
  · rename_i h
    have := (okM (ask_0 (Decidable.of_not_not h)).1).n8
    refine ⟨by rw [tabRows_len]; omega, fun r hr => by rw [tabRows_row hr]; omega⟩

set_option maxHeartbeats 2000000 in
set_option maxRecDepth 100000 in
theorem r_SameRows (xs ys : List (List Int)) (a b : Option Addr) (xn yn ca cb : Nat) (r : Bool) (w : World) (hxn : xs.length = xn) (hyn : ys.length = yn) (hr : decide (xs = ys) = r) (hx : RdLI w a xs) (hy : RdLI w b ys) (lx : xn ≤ 140737488355328) (ly : yn ≤ 140737488355328)
    (kx : ∀ l ∈ xs, l.length ≤ 140737488355328) (ky : ∀ l ∈ ys, l.length ≤ 140737488355328) :
    Calls Try.prog 57 #[.slice a xn ca, .slice b yn cb] w fun e w' => e = .returned (.bool r) ∧ Below w.heap.size w w' := by
  have HXN := Lib.hid hxn
  have HYN := Lib.hid hyn
  have HR := Lib.hid hr
  have KX := Lib.hid kx
  have KY := Lib.hid ky
  clear hxn hyn hr kx ky
  by_cases hne : xn = yn
  · obtain rfl := hne
    go_enter Try.func57, Try.ntmps57
    go_wp2
    go_loopw [5] (fun i wr => ∃ k : Nat, k ≤ xn ∧ i = .int .i64 k ∧ Hid (∀ j, j < k → xs[j]? = ys[j]?) ∧ Below w.heap.size w wr) (fun i _ => xn - (intOf i).toNat)
    case atStart => exact ⟨0, Nat.zero_le _, rfl, Lib.hid (fun j h => absurd h (Nat.not_lt_zero _)), Below.refl _ _⟩
    case round =>
      have HX := Lib.hid hx
      have HY := Lib.hid hy
      clear hx hy
      obtain ⟨k, hk, rfl, hall, hB⟩ := hrel
      by_cases hlt : k < xn
      · obtain ⟨b1, off1, l, ra, rc, rfl, h1, c1, r1⟩ := (HX.out.below hB).at (i := k) (by rw [HXN.out]; exact hlt)
        obtain ⟨b2, off2, m, rb, rd, rfl, h2, c2, r2⟩ := (HY.out.below hB).at (i := k) (by rw [HYN.out]; exact hlt)
        have H1 := Lib.hid h1
        have H2 := Lib.hid h2
        have hl1 := KX.out l (List.mem_of_getElem? h1)
        have hl2 := KY.out m (List.mem_of_getElem? h2)
        have R1 := Lib.hid r1
        have R2 := Lib.hid r2
        clear h1 h2 r1 r2
        by_cases he : l.length = m.length
        · obtain ⟨ln, hln⟩ : ∃ ln, ln = l.length := ⟨_, rfl⟩
          rw [← he] at c2
          rw [← hln] at c1 c2 hl1
          have HLN := Lib.hid hln
          have HE := Lib.hid he
          clear he hln hl2
          have t1 : ((ln : Int) != (ln : Int)) = false := by simp
          have C1 := Lib.hid c1
          have C2 := Lib.hid c2
          obtain ⟨wo, rfl⟩ : ∃ wo : World, wo = wr := ⟨_, rfl⟩
          go_wp2
          go_quiet (fail)
          go_wp2
          clear c1 c2
          go_loopw [6] (fun i wr => ∃ q : Nat, q ≤ ln ∧ i = .int .i64 q ∧ Hid (∀ j, j < q → l[j]? = m[j]?) ∧ Below wo.heap.size wo wr) (fun i _ => ln - (intOf i).toNat)
          case atStart => exact ⟨0, Nat.zero_le _, rfl, Lib.hid (fun j h => absurd h (Nat.not_lt_zero _)), bdrN (Below.refl _ _) _⟩
          case round =>
            obtain ⟨q, hq, rfl, hin, hB2⟩ := hrel
            have c1 := below_cell hB2 C1.out
            have c2 := below_cell hB2 C2.out
            by_cases hlt2 : q < ln
            · obtain ⟨b3, off3, x, rfl, h3, x1⟩ := (R1.out.below hB2).ati (i := q) (by rw [← HLN.out]; exact hlt2)
              obtain ⟨b4, off4, y, rfl, h4, y1⟩ := (R2.out.below hB2).ati (i := q) (by rw [← HE.out, ← HLN.out]; exact hlt2)
              have H3 := Lib.hid h3
              have H4 := Lib.hid h4
              clear h3 h4
              by_cases hxy : x = y
              · subst hxy
                have t2 : (x != x) = false := by simp
                go_wp2
                go_quiet (fail)
                go_wp2
                go_roundw
                case rel =>
                  refine ⟨q + 1, by omega, by go_num, Lib.hid (fun j hj => ?_), bdrN hB2 _⟩
                  by_cases e : j = q
                  · subst e; rw [H3.out, H4.out]
                  · exact hin.out j (by omega)
                case measure => simp [intOf]; omega
              · have t2 : (x != y) = true := by simp [hxy]
                have HXY := Lib.hid hxy
                clear hxy
                go_wp2
                go_quiet (fail)
                go_wp2
                go_ret
                refine ⟨ret_bool ?_, bdrN (bthen hB hB2) _⟩
                rw [← HR.out]
                refine (decide_eq_false ?_).symm
                rintro rfl
                have : l = m := Option.some.inj (H1.out.symm.trans H2.out)
                subst this
                exact HXY.out (Option.some.inj (H3.out.symm.trans H4.out))
            · obtain rfl : q = ln := by omega
              go_wp2
              go_roundw
              case rel =>
                refine ⟨k + 1, by omega, by go_num, Lib.hid (fun j hj => ?_), bthen hB hB2⟩
                by_cases e : j = k
                · subst e
                  rw [H1.out, H2.out, (eqL_cons HE.out).1 (by rw [← HLN.out]; exact hin.out)]
                · exact hall.out j (by omega)
              case measure => simp [intOf]; omega
        · have t1 : ((l.length : Int) != (m.length : Int)) = true := by simp; omega
          have HE := Lib.hid he
          clear he
          go_wp2
          go_quiet (fail)
          go_wp2
          go_ret
          refine ⟨ret_bool ?_, bdrN hB _⟩
          rw [← HR.out]
          refine (decide_eq_false ?_).symm
          rintro rfl
          exact HE.out (by rw [Option.some.inj (H1.out.symm.trans H2.out)])
      · obtain rfl : k = xn := by omega
        go_wp2
        go_ret
        refine ⟨ret_bool ?_, hB⟩
        rw [← HR.out]
        exact (decide_eq_true ((eqL_cons (by rw [HXN.out, HYN.out])).1 (by rw [HXN.out]; exact hall.out))).symm
  · have t1 : ((xn : Int) != (yn : Int)) = true := by simp; omega
    go_enter Try.func57, Try.ntmps57
    go_wp2
    go_ret
    refine ⟨ret_bool ?_, Below.refl _ _⟩
    rw [← HR.out]
    refine (decide_eq_false ?_).symm
    rintro rfl
    exact hne (HXN.out.symm.trans HYN.out)

set_option maxHeartbeats 1000000 in
set_option maxRecDepth 100000 in
theorem c_EqualP (xs ys : List (Int × Int)) (a b : Option Addr) (xn yn ca cb : Nat) (r : Bool) (w : World) (hxn : xs.length = xn) (hyn : ys.length = yn) (hr : decide (xs = ys) = r) (hx : RdP w a xs) (hy : RdP w b ys) (lx : xn ≤ 140737488355328) (ly : yn ≤ 140737488355328) :
    Calls Try.prog 42 #[.slice a xn ca, .slice b yn cb] w fun e w' => e = .returned (.bool r) ∧ Below w.heap.size w w' := by
  have HXN := Lib.hid hxn
  have HYN := Lib.hid hyn
  have HR := Lib.hid hr
  clear hxn hyn hr
  by_cases hne : xn = yn
  · obtain rfl := hne
    go_enter Try.func42, Try.ntmps42
    go_wp2
    go_loopw [13] (fun i wr => ∃ k : Nat, k ≤ xn ∧ i = .int .i64 k ∧ Hid (∀ j, j < k → xs[j]? = ys[j]?) ∧ Below w.heap.size w wr) (fun i _ => xn - (intOf i).toNat)
    case atStart => exact ⟨0, Nat.zero_le _, rfl, Lib.hid (fun j h => absurd h (Nat.not_lt_zero _)), Below.refl _ _⟩
    case round =>
      have HX := Lib.hid hx
      have HY := Lib.hid hy
      clear hx hy
      obtain ⟨k, hk, rfl, hall, hB⟩ := hrel
      by_cases hlt : k < xn
      · obtain ⟨b1, off1, x, rfl, h1, c1, d1⟩ := (HX.out.below hB).atp (i := k) (by rw [HXN.out]; exact hlt)
        obtain ⟨b2, off2, y, rfl, h2, c2, d2⟩ := (HY.out.below hB).atp (i := k) (by rw [HYN.out]; exact hlt)
        have H1 := Lib.hid h1
        have H2 := Lib.hid h2
        clear h1 h2
        by_cases he : x = y
        · subst he
          have heq : ∀ w, Sem.run Try.prog (Op.equalIn 10000 54 (.agg #[.int .i64 x.1, .int .i64 x.2]) (.agg #[.int .i64 x.1, .int .i64 x.2])) w = .ok true w := fun w => by
            rw [eqP]; simp
          go_wp2
          go_quiet (fail)
          go_wp2
          go_roundw
          case rel =>
            refine ⟨k + 1, by omega, by go_num, Lib.hid (fun j hj => ?_), bdrN hB _⟩
            by_cases e : j = k
            · subst e; rw [H1.out, H2.out]
            · exact hall.out j (by omega)
          case measure => simp [intOf]; omega
        · have heq : ∀ w, Sem.run Try.prog (Op.equalIn 10000 54 (.agg #[.int .i64 x.1, .int .i64 x.2]) (.agg #[.int .i64 y.1, .int .i64 y.2])) w = .ok false w := fun w => by
            rw [eqP]
            congr 1
            cases e1 : (x.1 == y.1 && x.2 == y.2) with
            | false => rfl
            | true =>
              simp only [Bool.and_eq_true, beq_iff_eq] at e1
              exact absurd (Prod.ext e1.1 e1.2) he
          have HE := Lib.hid he
          clear he
          go_wp2
          go_quiet (fail)
          go_wp2
          go_ret
          refine ⟨ret_bool ?_, bdrN hB _⟩
          rw [← HR.out]
          refine (decide_eq_false ?_).symm
          rintro rfl
          exact HE.out (Option.some.inj (H1.out.symm.trans H2.out))
      · obtain rfl : k = xn := by omega
        go_wp2
        go_ret
        refine ⟨ret_bool ?_, hB⟩
        rw [← HR.out]
        exact (decide_eq_true ((eqL_cons (by rw [HXN.out, HYN.out])).1 (by rw [HXN.out]; exact hall.out))).symm
  · have t1 : ((xn : Int) != (yn : Int)) = true := by simp; omega
    go_enter Try.func42, Try.ntmps42
    go_wp2
    go_ret
    refine ⟨ret_bool ?_, Below.refl _ _⟩
    rw [← HR.out]
    refine (decide_eq_false ?_).symm
    rintro rfl
    exact hne (HXN.out.symm.trans HYN.out)

end Go.Proofs.Ytjdldmecjhddnaa
