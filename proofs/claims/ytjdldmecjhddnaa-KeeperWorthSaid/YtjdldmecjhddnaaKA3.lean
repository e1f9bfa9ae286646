/- The contracts of slices.Index and Contains of ints. -/
import Derived.Test.YtjdldmecjhddnaaK17
namespace Go.Proofs.Ytjdldmecjhddnaa
open Go.RowKit
set_option linter.unusedVariables false
set_option linter.unusedSimpArgs false

set_option maxHeartbeats 4000000 in
set_option maxRecDepth 100000 in
theorem c_Index (l : List Int) (x : Int) (a : Option Addr) (n c : Nat) (w : World) (hn : l.length = n) (hl : RdI w a l) (hll : n ≤ 140737488355328) :
    Calls Try.prog 92 #[.slice a n c, .int .i64 x] w fun e w' => ∃ r : Int, e = .returned (.int .i64 r) ∧ Hid (decide (0 ≤ r) = decide (x ∈ l)) ∧ w = w' := by
  have HN := Lib.hid hn
  have HL := Lib.hid hl
  clear hn hl
  go_enter Try.func92, Try.ntmps92
  go_wp2_with fail
  go_loop [8] (fun i => ∃ k : Nat, k ≤ n ∧ i = .int .i64 k ∧ Hid (∀ j, j < k → l[j]? ≠ some x)) (fun i => n - (intOf i).toNat)
  case atStart => exact ⟨0, Nat.zero_le _, rfl, Lib.hid (fun j h => absurd h (Nat.not_lt_zero _))⟩
  case round =>
    obtain ⟨k, hk, rfl, hall⟩ := hrel
    by_cases hlt : k < n
    · obtain ⟨b1, off1, v, rfl, h1, c1⟩ := HL.out.ati (i := k) (by rw [HN.out]; exact hlt)
      have H1 := Lib.hid h1
      clear h1
      by_cases hp : x = v
      · subst hp
        have t1 : (x == x) = true := by simp
        go_wp2
        go_ret
        exact ⟨_, rfl, Lib.hid (by have hx := List.mem_of_getElem? H1.out; simp [hx]), rfl⟩
      · have t1 : (x == v) = false := by simp [hp]
        have HP := Lib.hid hp
        clear hp
        go_wp2
        go_round
        case rel =>
          refine ⟨k + 1, by omega, by go_num, Lib.hid (fun j hj hu => ?_)⟩
          by_cases e : j = k
          · subst e; rw [H1.out] at hu; cases hu; exact HP.out rfl
          · exact hall.out j (by omega) hu
        case measure => simp [intOf]; omega
    · obtain rfl : k = n := by omega
      go_wp2
      go_ret
      have hno : ¬ x ∈ l := fun h => by
        obtain ⟨i, hi, e⟩ := List.mem_iff_getElem.1 h
        exact hall.out i (by rw [← HN.out]; exact hi) (by rw [List.getElem?_eq_getElem hi, e])
      refine ⟨_, rfl, Lib.hid ?_, rfl⟩
      simp [hno]
set_option maxHeartbeats 4000000 in
set_option maxRecDepth 100000 in
theorem c_Contains (l : List Int) (x : Int) (a : Option Addr) (n c : Nat) (r : Bool) (w : World) (hn : l.length = n) (hr : decide (x ∈ l) = r) (hl : RdI w a l) (hll : n ≤ 140737488355328) :
    Calls Try.prog 47 #[.slice a n c, .int .i64 x] w fun e w' => e = .returned (.bool r) ∧ w = w' := by
  have HR := Lib.hid hr
  clear hr
  go_enter Try.func47, Try.ntmps47
  go_wp2_with fail
  refine (c_Index l x a n c _ hn hl hll).mono ?_
  rintro e w1 ⟨r1, rfl, hr1, rfl⟩
  go_wp2
  go_ret
  exact ⟨ret_bool (by rw [hr1.out, HR.out]), rfl⟩
theorem c_ContainsB (l : List Int) (x : Int) (a : Option Addr) (n c : Nat) (r : Bool) (w : World) (hn : l.length = n) (hr : decide (x ∈ l) = r) (hl : RdI w a l) (hll : n ≤ 140737488355328) :
    Calls Try.prog 47 #[.slice a n c, .int .i64 x] w fun e w' => e = .returned (.bool r) ∧ Below w.heap.size w w' :=
  (c_Contains l x a n c r w hn hr hl hll).mono fun _ _ ⟨h1, h2⟩ => ⟨h1, h2 ▸ Below.refl _ _⟩
end Go.Proofs.Ytjdldmecjhddnaa
