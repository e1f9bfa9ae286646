/- The contracts of keeper.isOffer, keeper.Check. -/
import Derived.Test.YtjdldmecjhddnaaProg
import Derived.Test.YtjdldmecjhddnaaKMem
import Derived.Deep.QuietTactic
import Derived.BigQuiet
import Derived.Outline
namespace Go.Proofs.Ytjdldmecjhddnaa
open Go.RowKit
set_option linter.unusedVariables false
set_option linter.unusedSimpArgs false

set_option maxHeartbeats 400000 in
theorem k_isOffer (o : Off) (n c : Int) (r : Bool) (hr : isOff o n c = r) (w : World) :
    Calls Try.prog 87 #[.agg #[.int .i64 o.A, .int .i64 o.B, .int .i64 o.C, .int .i64 o.W], .int .i64 n, .int .i64 c] w fun e w' => e = .returned (.bool r) ∧ Below w.heap.size w w' := by
  subst hr
  obtain ⟨A, B, C, W⟩ := o
  go_enter Try.func87, Try.ntmps87
  go_wp2
  all_goals
    go_ret
    refine ⟨ret_bool ?_, (Below.refl _ _).alloc (Nat.le_refl _) _⟩
    unfold isOff
    simp [*] <;> omega

set_option maxHeartbeats 1000000 in
theorem k_Check (m : Mk) (v : Value) (w : World) (hm : MkRd w m v) :
    Calls Try.prog 38 #[v] w fun e w' => e = .returned (.int .i64 (chkE m)) ∧ Below w.heap.size w w' := by
  obtain ⟨ka, kc, oa, oc, rfl, hk, ho, hkl, hol⟩ := hm
  by_cases hok : 2 ≤ m.n ∧ m.n ≤ 8 ∧ m.ks.length ≤ 24 ∧ m.os.length ≤ 12
  · obtain ⟨g1, g2, g3, g4⟩ := hok
    go_enter Try.func38, Try.ntmps38
    go_wp2_with fail
    go_loopw [30] (fun i wr => ∃ k : Nat, k ≤ m.ks.length ∧ i = .int .i64 k ∧ Hid (∀ j x, m.ks[j]? = some x → j < k → isOff x m.n 0 = true) ∧ wr.cell? ⟨w.heap.size, 0, none⟩ = some (.int .i64 m.n) ∧
       wr.cell? ⟨w.heap.size, 2, none⟩ = some (.slice oa m.os.length oc) ∧ Below w.heap.size w wr) (fun i _ => m.ks.length - (intOf i).toNat)
    case atStart => exact ⟨0, Nat.zero_le _, rfl, Lib.hid (fun j x _ h => absurd h (Nat.not_lt_zero _)), by simp, by simp, (Below.refl _ _).alloc (Nat.le_refl _) _⟩
    case round =>
      obtain ⟨k, hk1, rfl, hall, hc1, hc2, hB⟩ := hrel
      have hs1 : w.heap.size < wr.heap.size := World.block_lt_of_cell? wr _ hc1
      by_cases hlt : k < m.ks.length
      · obtain ⟨b, off, x, rfl, hx, q0, q1, q2, q3⟩ := (hk.below hB).ato hlt
        have HX := Lib.hid hx
        clear hx
        cases hof : isOff x m.n 0 with
        | true =>
          have HOF := Lib.hid hof
          clear hof
          go_wp2_with (go_at_call 87; refine (k_isOffer x _ _ _ HOF.out _).mono ?_; rintro e w1 ⟨rfl, hb⟩)
          go_roundw
          case rel =>
            refine ⟨k + 1, by omega, by go_num, Lib.hid (fun j y hy hj => ?_), ?_, ?_, ?_⟩
            · rcases Nat.lt_or_ge j k with h' | h'
              · exact hall.out j y hy h'
              · obtain rfl : j = k := by omega
                rw [HX.out] at hy; cases hy; exact HOF.out
            · exact below_cell hb (cal hc1 _)
            · exact below_cell hb (cal hc2 _)
            · exact below_then (hB.alloc (by omega) _) (by simp; omega) hb
          case measure => simp [intOf]; omega
        | false =>
          have HOF := Lib.hid hof
          clear hof
          go_wp2_with (go_at_call 87; refine (k_isOffer x _ _ _ HOF.out _).mono ?_; rintro e w1 ⟨rfl, hb⟩)
          go_ret
          exact ⟨ret_int (chk_ks HX.out HOF.out).symm, below_then (hB.alloc (by omega) _) (by simp; omega) hb⟩
      · obtain ⟨w2, rfl⟩ : ∃ w2 : World, w2 = wr := ⟨_, rfl⟩
        have hB0 := hB
        have hall0 := hall
        have hk0 := hk1
        clear hB hall hk1
        go_wp2_with fail
        go_loopw [43] (fun i wr => ∃ k : Nat, k ≤ m.os.length ∧ i = .int .i64 k ∧ Hid (∀ j x, m.os[j]? = some x → j < k → isOff x m.n 10000 = true) ∧ wr.cell? ⟨w.heap.size, 0, none⟩ = some (.int .i64 m.n) ∧
          Below w.heap.size w wr) (fun i _ => m.os.length - (intOf i).toNat)
        case atStart => exact ⟨0, Nat.zero_le _, rfl, Lib.hid (fun j x _ h => absurd h (Nat.not_lt_zero _)), hc1, hB0⟩
        case round =>
          clear hc1 hc2 hs1
          obtain ⟨k2, hk2, rfl, hall, hc1, hB⟩ := hrel
          have hs1 : w.heap.size < wr.heap.size := World.block_lt_of_cell? wr _ hc1
          by_cases hlt2 : k2 < m.os.length
          · obtain ⟨b, off, x, rfl, hx, q0, q1, q2, q3⟩ := (ho.below hB).ato hlt2
            have HX := Lib.hid hx
            clear hx
            cases hof : isOff x m.n 10000 with
            | true =>
              have HOF := Lib.hid hof
              clear hof
              go_wp2_with (go_at_call 87; refine (k_isOffer x _ _ _ HOF.out _).mono ?_; rintro e w1 ⟨rfl, hb⟩)
              go_roundw
              case rel =>
                refine ⟨k2 + 1, by omega, by go_num, Lib.hid (fun j y hy hj => ?_), ?_, ?_⟩
                · rcases Nat.lt_or_ge j k2 with h' | h'
                  · exact hall.out j y hy h'
                  · obtain rfl : j = k2 := by omega
                    rw [HX.out] at hy; cases hy; exact HOF.out
                · exact below_cell hb (cal hc1 _)
                · exact below_then (hB.alloc (by omega) _) (by simp; omega) hb
              case measure => simp [intOf]; omega
            | false =>
              have HOF := Lib.hid hof
              clear hof
              go_wp2_with (go_at_call 87; refine (k_isOffer x _ _ _ HOF.out _).mono ?_; rintro e w1 ⟨rfl, hb⟩)
              go_ret
              exact ⟨ret_int (chk_os HX.out HOF.out).symm, below_then (hB.alloc (by omega) _) (by simp; omega) hb⟩
          · go_wp2_with fail
            go_ret
            exact ⟨ret_int (chk_good g1 g2 g3 g4 (fun j x hx hj => hall0.out j x hx (by omega)) (fun j x hx hj => hall.out j x hx (by omega))).symm, hB⟩
  · go_enter Try.func38, Try.ntmps38
    go_wp2_with fail
    all_goals first
      | (exfalso; omega)
      | (go_ret; exact ⟨ret_int (chk_dims hok).symm, (Below.refl _ _).alloc (Nat.le_refl _) _⟩)
end Go.Proofs.Ytjdldmecjhddnaa
