/- KeeperBest: what it computes is true. -/
import Derived.Test.YtjdldmecjhddnaaK18
import Derived.Test.YtjdldmecjhddnaaKR7
namespace Go.Proofs.Ytjdldmecjhddnaa
open Go.RowKit
set_option linter.unusedVariables false
set_option linter.unusedSimpArgs false

theorem foundF_len (e : Int) (r : Option Nat) : (foundF e r).1.length ≤ 140737488355328 := by
  unfold foundF
  split
  · exact Nat.zero_le _
  · split
    · exact Nat.zero_le _
    · have := bits_len 12 (by assumption); simp only; omega
set_option maxHeartbeats 8000000 in
set_option maxRecDepth 100000 in
theorem law_Best (m : Mk) (mv : Value) (a b width : Int) (w : World) (hm : MkRd w m mv) :
    Calls Try.prog 4 #[mv, .int .i64 a, .int .i64 b, .int .i64 width] w fun e w' => e = .returned (.bool true) ∧ Below w.heap.size w w' := by
  have HM := Lib.hid hm
  obtain ⟨ka, kc, oa, oc, rfl, _⟩ := hm
  cases hfew : fewB m with
  | false =>
    have HFEW := Lib.hid hfew
    clear hfew
    go_enter Try.func4, Try.ntmps4
    go_wp2_with fail
    refine (l_sane _).mono ?_
    rintro e w1 ⟨rfl, hb⟩
    have hbk : Below w.heap.size w w1 := bthen (bal (Below.refl _ _) (.cells #[.int .i64 m.n, .slice ka m.ks.length kc, .slice oa m.os.length oc] 24)) hb
    have m0 := below_cell hb (show (w.alloc (.cells #[.int .i64 m.n, .slice ka m.ks.length kc, .slice oa m.os.length oc] 24)).cell? ⟨w.heap.size, 0, none⟩ = some (.int .i64 m.n) from by simp)
    have m1 := below_cell hb (show (w.alloc (.cells #[.int .i64 m.n, .slice ka m.ks.length kc, .slice oa m.os.length oc] 24)).cell? ⟨w.heap.size, 1, none⟩ = some (.slice ka m.ks.length kc) from by simp)
    have m2 := below_cell hb (show (w.alloc (.cells #[.int .i64 m.n, .slice ka m.ks.length kc, .slice oa m.os.length oc] 24)).cell? ⟨w.heap.size, 2, none⟩ = some (.slice oa m.os.length oc) from by simp)
    have hlt_m0 : w.heap.size < w1.heap.size := World.block_lt_of_cell? w1 _ m0
    replace HM := Lib.hid (HM.out.below hbk)
    have hB := hbk
    clear hbk hb
    go_wp2_with fail
    refine (l_few m _ _ (by exact HM.out.below (Below.refl _ _))).mono ?_
    rintro e w2 ⟨rfl, hb⟩
    rw [HFEW.out]
    have hbk : Below w1.heap.size w1 w2 := bthen (Below.refl _ _) hb
    replace m0 := below_cell hbk m0
    replace m1 := below_cell hbk m1
    replace m2 := below_cell hbk m2
    replace hlt_m0 : w.heap.size < w2.heap.size := World.block_lt_of_cell? w2 _ m0
    replace HM := Lib.hid (HM.out.below hbk)
    replace hB := bthen hB hbk
    clear hbk hb
    go_wp2
    go_ret
    exact ⟨rfl, hB⟩
  | true =>
    have HFEW := Lib.hid hfew
    clear hfew
    go_enter Try.func4, Try.ntmps4
    go_wp2_with fail
    refine (l_sane _).mono ?_
    rintro e w1 ⟨rfl, hb⟩
    have hbk : Below w.heap.size w w1 := bthen (bal (Below.refl _ _) (.cells #[.int .i64 m.n, .slice ka m.ks.length kc, .slice oa m.os.length oc] 24)) hb
    have m0 := below_cell hb (show (w.alloc (.cells #[.int .i64 m.n, .slice ka m.ks.length kc, .slice oa m.os.length oc] 24)).cell? ⟨w.heap.size, 0, none⟩ = some (.int .i64 m.n) from by simp)
    have m1 := below_cell hb (show (w.alloc (.cells #[.int .i64 m.n, .slice ka m.ks.length kc, .slice oa m.os.length oc] 24)).cell? ⟨w.heap.size, 1, none⟩ = some (.slice ka m.ks.length kc) from by simp)
    have m2 := below_cell hb (show (w.alloc (.cells #[.int .i64 m.n, .slice ka m.ks.length kc, .slice oa m.os.length oc] 24)).cell? ⟨w.heap.size, 2, none⟩ = some (.slice oa m.os.length oc) from by simp)
    have hlt_m0 : w.heap.size < w1.heap.size := World.block_lt_of_cell? w1 _ m0
    replace HM := Lib.hid (HM.out.below hbk)
    have hB := hbk
    clear hbk hb
    go_wp2_with fail
    refine (l_few m _ _ (by exact HM.out.below (Below.refl _ _))).mono ?_
    rintro e w2 ⟨rfl, hb⟩
    rw [HFEW.out]
    have hbk : Below w1.heap.size w1 w2 := bthen (Below.refl _ _) hb
    replace m0 := below_cell hbk m0
    replace m1 := below_cell hbk m1
    replace m2 := below_cell hbk m2
    replace hlt_m0 : w.heap.size < w2.heap.size := World.block_lt_of_cell? w2 _ m0
    replace HM := Lib.hid (HM.out.below hbk)
    replace hB := bthen hB hbk
    clear hbk hb
    obtain ⟨RBest, hRBest⟩ : ∃ R, Hid (R = bestF m a b width) := ⟨_, Lib.hid rfl⟩
    have HLBest : RBest.1.length ≤ 140737488355328 := by rw [hRBest.out]; exact foundF_len _ _
    go_wp2_with fail
    refine (k_Best m _ a b width _ (by exact HM.out.below (Below.refl _ _))).mono ?_
    rintro e w3 ⟨v, rfl, hown, hb⟩
    rw [← hRBest.out] at hown ⊢
    have hbk : Below w2.heap.size w2 w3 := bthen (Below.refl _ _) hb
    replace m0 := below_cell hbk m0
    replace m1 := below_cell hbk m1
    replace m2 := below_cell hbk m2
    replace hlt_m0 : w.heap.size < w3.heap.size := World.block_lt_of_cell? w3 _ m0
    replace HM := Lib.hid (HM.out.below hbk)
    replace hB := bthen hB hbk
    obtain ⟨Xa, Xc, rfl, X⟩ := own_rdI hown
    replace X := Lib.hid X
    clear hown
    clear hbk hb
    go_wp2_with fail
    refine (r_Best m _ a b width _ (by exact HM.out.below (Below.refl _ _))).mono ?_
    rintro e w4 ⟨v, rfl, hown, hb⟩
    rw [← hRBest.out] at hown ⊢
    have hbk : Below w3.heap.size w3 w4 := bthen (Below.refl _ _) hb
    replace m0 := below_cell hbk m0
    replace m1 := below_cell hbk m1
    replace m2 := below_cell hbk m2
    replace hlt_m0 : w.heap.size < w4.heap.size := World.block_lt_of_cell? w4 _ m0
    replace HM := Lib.hid (HM.out.below hbk)
    replace X := Lib.hid (X.out.below hbk)
    replace hB := bthen hB hbk
    obtain ⟨Ya, Yc, rfl, Y⟩ := own_rdI hown
    replace Y := Lib.hid Y
    clear hown
    clear hbk hb
    go_wp2_with fail
    refine (c_Equal RBest.1 RBest.1 _ _ _ _ _ _ true _ rfl rfl (by simp) (by exact X.out.below (Below.refl _ _)) (by exact Y.out.below (Below.refl _ _)) HLBest HLBest).mono ?_
    rintro e w5 ⟨rfl, hb⟩
    have hbk : Below w4.heap.size w4 w5 := bthen (Below.refl _ _) hb
    replace m0 := below_cell hbk m0
    replace m1 := below_cell hbk m1
    replace m2 := below_cell hbk m2
    replace hlt_m0 : w.heap.size < w5.heap.size := World.block_lt_of_cell? w5 _ m0
    replace HM := Lib.hid (HM.out.below hbk)
    replace X := Lib.hid (X.out.below hbk)
    replace Y := Lib.hid (Y.out.below hbk)
    replace hB := bthen hB hbk
    clear hbk hb
    clear X Y
    obtain ⟨RTogether, hRTogether⟩ : ∃ R, Hid (R = togF m width) := ⟨_, Lib.hid rfl⟩
    have HLTogether : RTogether.1.length ≤ 140737488355328 := by rw [hRTogether.out]; exact foundF_len _ _
    go_wp2_with fail
    refine (k_Together m _ width _ (by exact HM.out.below (Below.refl _ _))).mono ?_
    rintro e w6 ⟨v, rfl, hown, hb⟩
    rw [← hRTogether.out] at hown ⊢
    have hbk : Below w5.heap.size w5 w6 := bthen (Below.refl _ _) hb
    replace m0 := below_cell hbk m0
    replace m1 := below_cell hbk m1
    replace m2 := below_cell hbk m2
    replace hlt_m0 : w.heap.size < w6.heap.size := World.block_lt_of_cell? w6 _ m0
    replace HM := Lib.hid (HM.out.below hbk)
    replace hB := bthen hB hbk
    obtain ⟨Xa, Xc, rfl, X⟩ := own_rdI hown
    replace X := Lib.hid X
    clear hown
    clear hbk hb
    go_wp2_with fail
    refine (r_Together m _ width _ (by exact HM.out.below (Below.refl _ _))).mono ?_
    rintro e w7 ⟨v, rfl, hown, hb⟩
    rw [← hRTogether.out] at hown ⊢
    have hbk : Below w6.heap.size w6 w7 := bthen (Below.refl _ _) hb
    replace m0 := below_cell hbk m0
    replace m1 := below_cell hbk m1
    replace m2 := below_cell hbk m2
    replace hlt_m0 : w.heap.size < w7.heap.size := World.block_lt_of_cell? w7 _ m0
    replace HM := Lib.hid (HM.out.below hbk)
    replace X := Lib.hid (X.out.below hbk)
    replace hB := bthen hB hbk
    obtain ⟨Ya, Yc, rfl, Y⟩ := own_rdI hown
    replace Y := Lib.hid Y
    clear hown
    clear hbk hb
    go_wp2_with fail
    refine (c_Equal RTogether.1 RTogether.1 _ _ _ _ _ _ true _ rfl rfl (by simp) (by exact X.out.below (Below.refl _ _)) (by exact Y.out.below (Below.refl _ _)) HLTogether HLTogether).mono ?_
    rintro e w8 ⟨rfl, hb⟩
    have hbk : Below w7.heap.size w7 w8 := bthen (Below.refl _ _) hb
    replace m0 := below_cell hbk m0
    replace m1 := below_cell hbk m1
    replace m2 := below_cell hbk m2
    replace hlt_m0 : w.heap.size < w8.heap.size := World.block_lt_of_cell? w8 _ m0
    replace HM := Lib.hid (HM.out.below hbk)
    replace X := Lib.hid (X.out.below hbk)
    replace Y := Lib.hid (Y.out.below hbk)
    replace hB := bthen hB hbk
    clear hbk hb
    clear X Y
    obtain ⟨RTree, hRTree⟩ : ∃ R, Hid (R = treeF m) := ⟨_, Lib.hid rfl⟩
    have HLTree : RTree.1.length ≤ 140737488355328 := by rw [hRTree.out]; exact foundF_len _ _
    go_wp2_with fail
    refine (k_Tree m _ _ (by exact HM.out.below (Below.refl _ _))).mono ?_
    rintro e w9 ⟨v, rfl, hown, hb⟩
    rw [← hRTree.out] at hown ⊢
    have hbk : Below w8.heap.size w8 w9 := bthen (Below.refl _ _) hb
    replace m0 := below_cell hbk m0
    replace m1 := below_cell hbk m1
    replace m2 := below_cell hbk m2
    replace hlt_m0 : w.heap.size < w9.heap.size := World.block_lt_of_cell? w9 _ m0
    replace HM := Lib.hid (HM.out.below hbk)
    replace hB := bthen hB hbk
    obtain ⟨Xa, Xc, rfl, X⟩ := own_rdI hown
    replace X := Lib.hid X
    clear hown
    clear hbk hb
    go_wp2_with fail
    refine (r_Tree m _ _ (by exact HM.out.below (Below.refl _ _))).mono ?_
    rintro e w10 ⟨v, rfl, hown, hb⟩
    rw [← hRTree.out] at hown ⊢
    have hbk : Below w9.heap.size w9 w10 := bthen (Below.refl _ _) hb
    replace m0 := below_cell hbk m0
    replace m1 := below_cell hbk m1
    replace m2 := below_cell hbk m2
    replace hlt_m0 : w.heap.size < w10.heap.size := World.block_lt_of_cell? w10 _ m0
    replace HM := Lib.hid (HM.out.below hbk)
    replace X := Lib.hid (X.out.below hbk)
    replace hB := bthen hB hbk
    obtain ⟨Ya, Yc, rfl, Y⟩ := own_rdI hown
    replace Y := Lib.hid Y
    clear hown
    clear hbk hb
    go_wp2_with fail
    refine (c_Equal RTree.1 RTree.1 _ _ _ _ _ _ true _ rfl rfl (by simp) (by exact X.out.below (Below.refl _ _)) (by exact Y.out.below (Below.refl _ _)) HLTree HLTree).mono ?_
    rintro e w11 ⟨rfl, hb⟩
    have hbk : Below w10.heap.size w10 w11 := bthen (Below.refl _ _) hb
    replace m0 := below_cell hbk m0
    replace m1 := below_cell hbk m1
    replace m2 := below_cell hbk m2
    replace hlt_m0 : w.heap.size < w11.heap.size := World.block_lt_of_cell? w11 _ m0
    replace HM := Lib.hid (HM.out.below hbk)
    replace X := Lib.hid (X.out.below hbk)
    replace Y := Lib.hid (Y.out.below hbk)
    replace hB := bthen hB hbk
    clear hbk hb
    clear X Y
    go_wp2
    go_ret
    exact ⟨rfl, hB⟩
end Go.Proofs.Ytjdldmecjhddnaa
