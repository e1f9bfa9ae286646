/- The contracts of cmp.isNaN, cmp.Compare, cmp.Or, slices.Compare, (choice).before, (choice).list. -/
import Derived.Test.YtjdldmecjhddnaaK5
import Derived.Test.YtjdldmecjhddnaaKPure2
import Derived.Shelf.Abstract
namespace Go.Proofs.Ytjdldmecjhddnaa
open Go.RowKit
set_option linter.unusedVariables false
set_option linter.unusedSimpArgs false

set_option maxHeartbeats 1000000 in
set_option maxRecDepth 100000 in
theorem c_isNaN (x : Int) (w : World) : Calls Try.prog 119 #[.int .i64 x] w fun e w' => e = .returned (.bool false) ∧ w = w' := by
  go_enter Try.func119, Try.ntmps119
  go_wp2
  go_ret
  exact ⟨ret_bool (by simp), rfl⟩

set_option maxHeartbeats 1000000 in
set_option maxRecDepth 100000 in
theorem c_Compare (x y : Int) (w : World) : Calls Try.prog 113 #[.int .i64 x, .int .i64 y] w fun e w' => e = .returned (.int .i64 (cmpI x y)) ∧ w = w' := by
  go_enter Try.func113, Try.ntmps113
  go_wp2_with (go_at_call 119; refine (c_isNaN _ _).mono ?_; rintro e w' ⟨rfl, rfl⟩)
  all_goals
    go_ret
    refine ⟨ret_int ?_, rfl⟩
    unfold cmpI
    split <;> (try split) <;> first | rfl | omega

set_option maxHeartbeats 1000000 in
set_option maxRecDepth 100000 in
theorem c_SCompare (xs ys : List Int) (a b : Option Addr) (ca cb : Nat) (w : World) (hx : RdI w a xs) (hy : RdI w b ys) (lx : xs.length ≤ 140737488355328) (ly : ys.length ≤ 140737488355328) :
    Calls Try.prog 86 #[.slice a xs.length ca, .slice b ys.length cb] w fun e w' => e = .returned (.int .i64 (cmpL xs ys)) ∧ w = w' := by
  go_enter Try.func86, Try.ntmps86
  go_wp2_with fail
  go_loop [11] (fun i => ∃ k : Nat, k ≤ xs.length ∧ k ≤ ys.length ∧ i = .int .i64 k ∧ Hid (cmpL xs ys = cmpL (xs.drop k) (ys.drop k))) (fun i => xs.length - (intOf i).toNat)
  case atStart => exact ⟨0, Nat.zero_le _, Nat.zero_le _, rfl, Lib.hid rfl⟩
  case round =>
    obtain ⟨k, hk1, hk2, rfl, hall⟩ := hrel
    by_cases hlt : k < xs.length
    · obtain ⟨b1, off1, x, rfl, hxx, q0⟩ := hx.ati hlt
      have HX := Lib.hid hxx
      clear hxx
      by_cases hlt2 : k < ys.length
      · obtain ⟨b2, off2, y, rfl, hyy, q1⟩ := hy.ati hlt2
        have HY := Lib.hid hyy
        clear hyy
        by_cases h0 : cmpI x y = 0
        · have H0 := Lib.hid h0
          clear h0
          go_wp2_with (go_at_call 113; refine (c_Compare _ _ _).mono ?_; rintro e w' ⟨rfl, rfl⟩; rw [H0.out])
          go_round
          case rel => exact ⟨k + 1, by omega, by omega, by go_num, Lib.hid (by rw [hall.out]; exact cmpL_drop HX.out HY.out H0.out)⟩
          case measure => simp [intOf]; omega
        · have H0 := Lib.hid h0
          have hb1 : (cmpI x y != 0) = true := by rw [bne_iff_ne]; exact h0
          clear h0
          go_wp2_with (go_at_call 113; refine (c_Compare _ _ _).mono ?_; rintro e w' ⟨rfl, rfl⟩)
          go_ret
          exact ⟨ret_int (by rw [hall.out, cmpL_stop HX.out HY.out H0.out]), rfl⟩
      · have hlt3 : ys.length ≤ k := by omega
        go_wp2
        go_ret
        exact ⟨ret_int (by rw [hall.out, cmpL_long hlt hlt3]), rfl⟩
    · have hlt2 : xs.length ≤ k := by omega
      by_cases hlt3 : xs.length < ys.length
      · go_wp2
        go_ret
        exact ⟨ret_int (by rw [hall.out, cmpL_end hlt2, if_pos (by omega)]), rfl⟩
      · go_wp2
        go_ret
        exact ⟨ret_int (by rw [hall.out, cmpL_end hlt2, if_neg (by omega)]), rfl⟩

set_option maxHeartbeats 1000000 in
set_option maxRecDepth 100000 in
theorem c_Or (xs : List Int) (a : Option Addr) (ca : Nat) (w : World) (hx : RdI w a xs) (lx : xs.length ≤ 140737488355328) :
    Calls Try.prog 112 #[.slice a xs.length ca] w fun e w' => e = .returned (.int .i64 (orL xs)) ∧ w = w' := by
  go_enter Try.func112, Try.ntmps112
  go_wp2_with fail
  go_loop [8] (fun i => ∃ k : Nat, k ≤ xs.length ∧ i = .int .i64 k ∧ Hid (orL xs = orL (xs.drop k))) (fun i => xs.length - (intOf i).toNat)
  case atStart => exact ⟨0, Nat.zero_le _, rfl, Lib.hid rfl⟩
  case round =>
    obtain ⟨k, hk1, rfl, hall⟩ := hrel
    by_cases hlt : k < xs.length
    · obtain ⟨b1, off1, x, rfl, hxx, q0⟩ := hx.ati hlt
      have HX := Lib.hid (orL_at hxx)
      clear hxx
      by_cases h0 : x = 0
      · subst h0
        go_wp2
        go_round
        case rel => exact ⟨k + 1, by omega, by go_num, Lib.hid (by rw [hall.out, HX.out, if_pos rfl])⟩
        case measure => simp [intOf]; omega
      · have hb1 : (x != 0) = true := by rw [bne_iff_ne]; exact h0
        go_wp2
        go_ret
        exact ⟨ret_int (by rw [hall.out, HX.out, if_neg h0]), rfl⟩
    · have hlt2 : xs.length ≤ k := by omega
      go_wp2
      go_ret
      exact ⟨ret_int (by rw [hall.out, List.drop_eq_nil_of_le hlt2]; rfl), rfl⟩

set_option maxHeartbeats 2000000 in
set_option maxRecDepth 100000 in
theorem k_before (f1 f2 : Bool) (c d : Int) (s t : Nat) (hs : s < 4096) (ht : t < 4096) (w : World) :
    Calls Try.prog 105 #[.agg #[.bool f1, .int .i64 c, .int .i64 s], .agg #[.bool f2, .int .i64 d, .int .i64 t]] w fun e w' => e = .returned (.bool (bef c s d t)) ∧ Below w.heap.size w w' := by
  go_enter Try.func105, Try.ntmps105
  go_wp2_with fail
  obtain ⟨w0, hw0⟩ : ∃ w0, (w.alloc (.cells #[.bool f1, .int .i64 c, .int .i64 s] 101)).alloc (.cells #[.bool f2, .int .i64 d, .int .i64 t] 101) = w0 := ⟨_, rfl⟩
  have q1 : w0.cell? ⟨w.heap.size, 1, none⟩ = some (.int .i64 c) := by rw [← hw0]; exact cal (by simp) _
  have q2 : w0.cell? ⟨w.heap.size, 2, none⟩ = some (.int .i64 s) := by rw [← hw0]; exact cal (by simp) _
  have q3 : w0.cell? ⟨w.heap.size + 1, 1, none⟩ = some (.int .i64 d) := by rw [← hw0]; simp
  have q4 : w0.cell? ⟨w.heap.size + 1, 2, none⟩ = some (.int .i64 t) := by rw [← hw0]; simp
  have hB : Below w.heap.size w w0 := by rw [← hw0]; exact bal (bal (Below.refl _ _) _) _
  rw [hw0]
  clear hw0
  go_region_held3 (fun w' => w'.cell? ⟨w.heap.size, 2, none⟩ = some (.int .i64 s) ∧ w'.cell? ⟨w.heap.size + 1, 2, none⟩ = some (.int .i64 t)) (first | exact ⟨below_cell hb1 ‹_›, below_cell hb1 ‹_›⟩ | exact ⟨below_cell hb2 (below_cell hb1 ‹_›), below_cell hb2 (below_cell hb1 ‹_›)⟩ | go_keep)
    (first
      | (go_at_call 106; with_reducible refine (k_list s hs _).mono ?_; rintro e w1 ⟨v1, rfl, hown1, hb1⟩)
      | (go_at_call 106; with_reducible refine (k_list t ht _).mono ?_; rintro e w2 ⟨v2, rfl, hown2, hb2⟩))
  have hB1 := hB.drew.trans ((bthen hb1 hb2).mono hB.size)
  obtain ⟨a1, c1, rfl, r1⟩ := own_rdI (own_below hown1 hb2)
  obtain ⟨a2, c2, rfl, r2⟩ := own_rdI hown2
  have l1 := bits_len 12 s
  have l2 := bits_len 12 t
  have q5 := below_cell hb2 (below_cell hb1 (cdw q1))
  have q6 := below_cell hb2 (below_cell hb1 (cdw q3))
  have HE := Lib.hid (show bef c s d t = decide (orL [cmpI c d, cmpI (bits 12 s).length (bits 12 t).length, cmpL (bits 12 s) (bits 12 t)] < 0) from rfl)
  obtain ⟨X, hX⟩ : ∃ X, X = bits 12 s := ⟨_, rfl⟩
  obtain ⟨Y, hY⟩ : ∃ Y, Y = bits 12 t := ⟨_, rfl⟩
  rw [← hX, ← hY] at HE
  rw [← hX] at l1 r1 ⊢
  rw [← hY] at l2 r2 ⊢
  have bI := cmpI_bd c d
  clear hown1 hown2 hb1 hb2 hX hY q1 q2 q3 q4 hB
  go_wp2_with (first
    | (go_at_call 113; refine (c_Compare _ _ _).mono ?_; rintro e w' ⟨rfl, rfl⟩)
    | (go_at_call 86; refine (c_SCompare X Y _ _ _ _ _ r1 r2 (by omega) (by omega)).mono ?_; rintro e w' ⟨rfl, rfl⟩)
    | (go_at_call 112; refine (c_Or [cmpI c d, cmpI X.length Y.length, cmpL X Y] _ _ _ (by exact rdI_new _ [cmpI c d, cmpI X.length Y.length, cmpL X Y] _) (by simp)).mono ?_; rintro e w' ⟨rfl, rfl⟩))
  go_ret
  refine ⟨ret_bool ?_, bal hB1 _⟩
  rw [HE.out]
end Go.Proofs.Ytjdldmecjhddnaa
