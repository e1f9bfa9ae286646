/- The contracts of the reference's within, isOffer, Check, Right, ready. -/
import Derived.Test.YtjdldmecjhddnaaK10
namespace Go.Proofs.Ytjdldmecjhddnaa
open Go.RowKit
set_option linter.unusedVariables false
set_option linter.unusedSimpArgs false

def wiB (n lo hi : Int) : Bool := decide (lo ≤ n) && decide (n ≤ hi)
theorem wiB_yes {n lo hi : Int} (h0 : lo ≤ n) (h1 : n ≤ hi) : wiB n lo hi = true := by simp [wiB, h0, h1]
theorem wiB_no {n lo hi : Int} (h : ¬ (lo ≤ n ∧ n ≤ hi)) : wiB n lo hi = false := by
  cases e : wiB n lo hi with
  | false => rfl
  | true => simp only [wiB, Bool.and_eq_true, decide_eq_true_eq] at e; exact absurd e h
theorem wiB_iff {n lo hi : Int} : wiB n lo hi = true ↔ lo ≤ n ∧ n ≤ hi := by simp [wiB]
set_option maxHeartbeats 400000 in
theorem r_within (n lo hi : Int) (w : World) : Calls Try.prog 72 #[.int .i64 n, .int .i64 lo, .int .i64 hi] w fun e w' => e = .returned (.bool (wiB n lo hi)) ∧ w = w' := by
  by_cases h1 : lo ≤ n <;> by_cases h2 : n ≤ hi
  all_goals
    go_enter Try.func72, Try.ntmps72
    go_wp2
    go_ret
    exact ⟨ret_bool (by simp [wiB, h1, h2]), rfl⟩

set_option maxHeartbeats 4000000 in
set_option maxRecDepth 100000 in
theorem r_isOffer (o : Off) (n c : Int) (h2 : 2 ≤ n) (h8 : n ≤ 8) (w : World) :
    Calls Try.prog 88 #[.agg #[.int .i64 o.A, .int .i64 o.B, .int .i64 o.C, .int .i64 o.W], .int .i64 n, .int .i64 c] w fun e w' => e = .returned (.bool (isOff o n c)) ∧ Below w.heap.size w w' := by
  have HE : Hid (isOff o n c = (wiB o.A 0 (n - 1) && (wiB o.B 0 (n - 1) && (!decide (o.A = o.B) && (wiB o.C 0 c && wiB o.W 0 1048576))))) := Lib.hid (by
    rw [Bool.eq_iff_iff]
    unfold isOff wiB
    simp only [Bool.and_eq_true, decide_eq_true_eq, Bool.not_eq_true', decide_eq_false_iff_not]
    constructor
    · rintro ⟨⟨⟨⟨⟨⟨⟨⟨p1, p2⟩, p3⟩, p4⟩, p5⟩, p6⟩, p7⟩, p8⟩, p9⟩
      exact ⟨⟨p1, by omega⟩, ⟨p3, by omega⟩, p5, ⟨p8, p9⟩, ⟨p6, p7⟩⟩
    · rintro ⟨⟨p1, p2⟩, ⟨p3, p4⟩, p5, ⟨p8, p9⟩, ⟨p6, p7⟩⟩
      exact ⟨⟨⟨⟨⟨⟨⟨⟨p1, by omega⟩, p3⟩, by omega⟩, p5⟩, p6⟩, p7⟩, p8⟩, p9⟩)
  obtain ⟨A, B, C, W⟩ := o
  simp only at HE ⊢
  cases h1 : wiB A 0 (n - 1) with
  | false =>
    go_enter Try.func88, Try.ntmps88
    go_wp2_with (go_at_call 72; refine (r_within _ _ _ _).mono ?_; rintro e w' ⟨rfl, rfl⟩)
    go_ret
    exact ⟨ret_bool (by rw [HE.out, h1]; rfl), bal (Below.refl _ _) _⟩
  | true =>
    cases h2' : wiB B 0 (n - 1) with
    | false =>
      go_enter Try.func88, Try.ntmps88
      go_wp2_with (go_at_call 72; refine (r_within _ _ _ _).mono ?_; rintro e w' ⟨rfl, rfl⟩)
      go_ret
      exact ⟨ret_bool (by rw [HE.out, h1, h2']; rfl), bal (Below.refl _ _) _⟩
    | true =>
      by_cases hne : A = B
      · have t1 : (A != B) = false := by simp [hne]
        have HNE := Lib.hid hne
        clear hne
        go_enter Try.func88, Try.ntmps88
        go_wp2_with (go_at_call 72; refine (r_within _ _ _ _).mono ?_; rintro e w' ⟨rfl, rfl⟩)
        go_ret
        exact ⟨ret_bool (by rw [HE.out, h1, h2']; simp [HNE.out]), bal (Below.refl _ _) _⟩
      · have t1 : (A != B) = true := by simp [hne]
        cases h3 : wiB C 0 c with
        | false =>
          go_enter Try.func88, Try.ntmps88
          go_wp2_with (go_at_call 72; refine (r_within _ _ _ _).mono ?_; rintro e w' ⟨rfl, rfl⟩)
          go_ret
          exact ⟨ret_bool (by rw [HE.out, h1, h2', h3]; simp), bal (Below.refl _ _) _⟩
        | true =>
          go_enter Try.func88, Try.ntmps88
          go_wp2_with (go_at_call 72; refine (r_within _ _ _ _).mono ?_; rintro e w' ⟨rfl, rfl⟩)
          go_ret
          exact ⟨ret_bool (by rw [HE.out, h1, h2', h3]; simp [hne]), bal (Below.refl _ _) _⟩

set_option maxHeartbeats 2000000 in
set_option maxRecDepth 100000 in
theorem r_Right (m : Mk) (mv : Value) (l : List Int) (la : Option Addr) (lc : Nat) (w : World) (hm : MkRd w m mv) (hl : RdI w la l) (hll : l.length ≤ 140737488355328) :
    Calls Try.prog 80 #[mv, .slice la l.length lc] w fun e w' => e = .returned (.bool (right m.os.length l)) ∧ Below w.heap.size w w' := by
  obtain ⟨ka, kc, oa, oc, rfl, hk, ho, hkl, hol⟩ := hm
  have hm2 : (w.alloc (.cells #[.int .i64 m.n, .slice ka m.ks.length kc, .slice oa m.os.length oc] 24)).cell? ⟨w.heap.size, 2, none⟩ = some (.slice oa m.os.length oc) := by simp
  have hB0 : Below w.heap.size w (w.alloc (.cells #[.int .i64 m.n, .slice ka m.ks.length kc, .slice oa m.os.length oc] 24)) := bal (Below.refl _ _) _
  have HM2 := Lib.hid hm2
  have HB0 := Lib.hid hB0
  have HL := Lib.hid hl
  clear hm2 hB0 hl
  go_enter Try.func80, Try.ntmps80
  go_wp2_with fail
  go_loopw [5] (fun i wr => ∃ k : Nat, k ≤ l.length ∧ i = .int .i64 k ∧ Hid (∀ j, j < k → rightAt m.os.length l j) ∧ wr.cell? ⟨w.heap.size, 2, none⟩ = some (.slice oa m.os.length oc) ∧ Below w.heap.size w wr) (fun i _ => l.length - (intOf i).toNat)
  case atStart => exact ⟨0, Nat.zero_le _, rfl, Lib.hid (fun j h => absurd h (Nat.not_lt_zero _)), HM2.out, HB0.out⟩
  case round =>
    clear HM2 HB0
    obtain ⟨k, hk1, rfl, hall, hm2, hB⟩ := hrel
    by_cases hlt : k < l.length
    · obtain ⟨b, off, x, rfl, hx, q0⟩ := (HL.out.below hB).ati hlt
      have HX := Lib.hid hx
      have HGX := Lib.hid (show l.getD k 0 = x from by rw [List.getD_eq_getElem?_getD, hx]; rfl)
      clear hx
      have t0 : IntKind.i64.wrap ((m.os.length : Int) - 1) = (m.os.length : Int) - 1 := by rw [IntKind.wrap_i64]; omega
      cases hw : wiB x 0 ((m.os.length : Int) - 1) with
      | false =>
        have HW := Lib.hid hw
        go_wp2
        go_quiet ((go_at_call 72; exact Calls.quiet_of_same (Calls.mono (r_within _ _ _ _) (fun _ _ ⟨he, hw⟩ => ⟨he, hw.symm⟩))))
        go_wp2
        go_ret
        refine ⟨ret_bool (right_no hlt (fun h => ?_)).symm, bdrN hB _⟩
        have h1 := h.1; have h2 := h.2.1
        rw [HGX.out] at h1 h2
        have : wiB x 0 ((m.os.length : Int) - 1) = true := wiB_yes h1 (by omega)
        rw [HW.out] at this; cases this
      | true =>
        have HW := Lib.hid (wiB_iff.1 hw)
        rcases k with _ | k
        · simp only [Nat.add_zero] at q0
          go_wp2
          go_quiet ((go_at_call 72; exact Calls.quiet_of_same (Calls.mono (r_within _ _ _ _) (fun _ _ ⟨he, hw⟩ => ⟨he, hw.symm⟩))))
          go_wp2
          go_roundw
          case rel =>
            refine ⟨1, by omega, by go_num, Lib.hid (fun j hj => ?_), hm2, bdrN hB _⟩
            obtain rfl : j = 0 := by omega
            have := HW.out
            exact ⟨by rw [HGX.out]; omega, by rw [HGX.out]; omega, .inl rfl⟩
          case measure => simp [intOf]; omega
        · obtain ⟨b2, off2, y, e2, hy, q1⟩ := (HL.out.below hB).ati (i := k) (by omega)
          injection e2 with e2
          injection e2 with e2 e3
          subst e2 e3
          have HGY := Lib.hid (show l.getD k 0 = y from by rw [List.getD_eq_getElem?_getD, hy]; rfl)
          clear hy
          have t1 : IntKind.i64.wrap ((k : Int) + 1 - 1) = k := by rw [IntKind.wrap_i64]; omega
          have t2 : IntKind.i64.wrap (k : Int) = k := by rw [IntKind.wrap_i64]; omega
          have t3 : (0 : Int) ≤ (k : Int) := Int.natCast_nonneg _
          have t4 : (0 : Int) < (k : Int) + 1 := by omega
          have t5 : (k : Int) < l.length := by omega
          have t6 : (k : Int) + 1 < l.length := by omega
          have t7 : (0 : Int) ≤ (k : Int) + 1 := by omega
          have t8 : ((k : Int) + 1).toNat = k + 1 := by omega
          by_cases hlt2 : y < x
          · have t9 : ¬ x ≤ y := by omega
            go_wp2
            go_quiet ((go_at_call 72; exact Calls.quiet_of_same (Calls.mono (r_within _ _ _ _) (fun _ _ ⟨he, hw⟩ => ⟨he, hw.symm⟩))))
            go_wp2
            go_roundw
            case rel =>
              refine ⟨k + 1 + 1, by omega, by go_num, Lib.hid (fun j hj => ?_), hm2, bdrN hB _⟩
              by_cases e : j = k + 1
              · subst e
                have := HW.out
                exact ⟨by rw [HGX.out]; omega, by rw [HGX.out]; omega, .inr (by rw [HGX.out, show k + 1 - 1 = k from rfl, HGY.out]; exact hlt2)⟩
              · exact hall.out j (by omega)
            case measure => simp [intOf]; omega
          · have t9 : x ≤ y := by omega
            go_wp2
            go_quiet ((go_at_call 72; exact Calls.quiet_of_same (Calls.mono (r_within _ _ _ _) (fun _ _ ⟨he, hw⟩ => ⟨he, hw.symm⟩))))
            go_wp2
            go_ret
            refine ⟨ret_bool (right_no hlt (fun h => ?_)).symm, bdrN hB _⟩
            have h1 := h.2.2
            rw [HGX.out, show k + 1 - 1 = k from rfl, HGY.out] at h1
            omega
    · obtain rfl : k = l.length := by omega
      go_wp2
      go_ret
      exact ⟨ret_bool (right_iff.2 hall.out).symm, hB⟩
end Go.Proofs.Ytjdldmecjhddnaa
