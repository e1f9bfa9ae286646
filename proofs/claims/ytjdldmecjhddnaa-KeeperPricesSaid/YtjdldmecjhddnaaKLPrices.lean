/- KeeperPrices: what it computes is true. -/
import Derived.Test.YtjdldmecjhddnaaK18
import Derived.Test.YtjdldmecjhddnaaKR9
namespace Go.Proofs.Ytjdldmecjhddnaa
open Go.RowKit
set_option linter.unusedVariables false
set_option linter.unusedSimpArgs false

theorem neededF_len (m : Mk) (a b width : Int) : (neededF m a b width).1.length ≤ 140737488355328 := by
  unfold neededF
  split
  · exact Nat.zero_le _
  · rename_i h
    have h0 : reachE m a b width = 0 := Decidable.of_not_not h
    have h12 := (okM (ask_0 (reach_0 h0).1).1).o12
    have := needL_len m a b width m.os.length
    simp only
    omega
set_option maxHeartbeats 8000000 in
set_option maxRecDepth 100000 in
theorem law_Prices (m : Mk) (mv : Value) (a b width offer cost : Int) (w : World) (hm : MkRd w m mv) :
    Calls Try.prog 3 #[mv, .int .i64 a, .int .i64 b, .int .i64 width, .int .i64 offer, .int .i64 cost] w fun e w' => e = .returned (.bool true) ∧ Below w.heap.size w w' := by
  have HM := Lib.hid hm
  obtain ⟨ka, kc, oa, oc, rfl, _⟩ := hm
  cases hfew : fewB m with
  | false =>
    have HFEW := Lib.hid hfew
    clear hfew
    go_enter Try.func3, Try.ntmps3
    go_wp2_with fail
    refine (l_sane _).mono ?_
    rintro e w1 ⟨rfl, hb⟩
    have hbk : Below w.heap.size w w1 := bthen (bal (Below.refl _ _) (.cells #[.int .i64 m.n, .slice ka m.ks.length kc, .slice oa m.os.length oc] 24)) hb
    have m0 := below_cell hb (show (w.alloc (.cells #[.int .i64 m.n, .slice ka m.ks.length kc, .slice oa m.os.length oc] 24)).cell? ⟨w.heap.size, 0, none⟩ = some (.int .i64 m.n) from by simp)
    have m1 := below_cell hb (show (w.alloc (.cells #[.int .i64 m.n, .slice ka m.ks.length kc, .slice oa m.os.length oc] 24)).cell? ⟨w.heap.size, 1, none⟩ = some (.slice ka m.ks.length kc) from by simp)
    have m2 := below_cell hb (show (w.alloc (.cells #[.int .i64 m.n, .slice ka m.ks.length kc, .slice oa m.os.length oc] 24)).cell? ⟨w.heap.size, 2, none⟩ = some (.slice oa m.os.length oc) from by simp)
    have hlt_m0 : w.heap.size < w1.heap.size := World.block_lt_of_cell? w1 _ m0
    replace HM := Lib.hid (HM.out.below hbk)
    have hB := hbk
    clear hbk hb
    go_wp2_with fail
    refine (l_few m _ _ (by exact HM.out.below (Below.refl _ _))).mono ?_
    rintro e w2 ⟨rfl, hb⟩
    rw [HFEW.out]
    have hbk : Below w1.heap.size w1 w2 := bthen (Below.refl _ _) hb
    replace m0 := below_cell hbk m0
    replace m1 := below_cell hbk m1
    replace m2 := below_cell hbk m2
    replace hlt_m0 : w.heap.size < w2.heap.size := World.block_lt_of_cell? w2 _ m0
    replace HM := Lib.hid (HM.out.below hbk)
    replace hB := bthen hB hbk
    clear hbk hb
    go_wp2
    go_ret
    exact ⟨rfl, hB⟩
  | true =>
    have HFEW := Lib.hid hfew
    clear hfew
    go_enter Try.func3, Try.ntmps3
    go_wp2_with fail
    refine (l_sane _).mono ?_
    rintro e w1 ⟨rfl, hb⟩
    have hbk : Below w.heap.size w w1 := bthen (bal (Below.refl _ _) (.cells #[.int .i64 m.n, .slice ka m.ks.length kc, .slice oa m.os.length oc] 24)) hb
    have m0 := below_cell hb (show (w.alloc (.cells #[.int .i64 m.n, .slice ka m.ks.length kc, .slice oa m.os.length oc] 24)).cell? ⟨w.heap.size, 0, none⟩ = some (.int .i64 m.n) from by simp)
    have m1 := below_cell hb (show (w.alloc (.cells #[.int .i64 m.n, .slice ka m.ks.length kc, .slice oa m.os.length oc] 24)).cell? ⟨w.heap.size, 1, none⟩ = some (.slice ka m.ks.length kc) from by simp)
    have m2 := below_cell hb (show (w.alloc (.cells #[.int .i64 m.n, .slice ka m.ks.length kc, .slice oa m.os.length oc] 24)).cell? ⟨w.heap.size, 2, none⟩ = some (.slice oa m.os.length oc) from by simp)
    have hlt_m0 : w.heap.size < w1.heap.size := World.block_lt_of_cell? w1 _ m0
    replace HM := Lib.hid (HM.out.below hbk)
    have hB := hbk
    clear hbk hb
    go_wp2_with fail
    refine (l_few m _ _ (by exact HM.out.below (Below.refl _ _))).mono ?_
    rintro e w2 ⟨rfl, hb⟩
    rw [HFEW.out]
    have hbk : Below w1.heap.size w1 w2 := bthen (Below.refl _ _) hb
    replace m0 := below_cell hbk m0
    replace m1 := below_cell hbk m1
    replace m2 := below_cell hbk m2
    replace hlt_m0 : w.heap.size < w2.heap.size := World.block_lt_of_cell? w2 _ m0
    replace HM := Lib.hid (HM.out.below hbk)
    replace hB := bthen hB hbk
    clear hbk hb
    obtain ⟨R, hR⟩ : ∃ R, Hid (R = neededF m a b width) := ⟨_, Lib.hid rfl⟩
    have HL : R.1.length ≤ 140737488355328 := by rw [hR.out]; exact neededF_len _ _ _ _
    go_wp2_with fail
    refine (k_Needed m _ a b width _ (by exact HM.out.below (Below.refl _ _))).mono ?_
    rintro e w3 ⟨v, rfl, hown, hb⟩
    rw [← hR.out] at hown ⊢
    have hbk : Below w2.heap.size w2 w3 := bthen (Below.refl _ _) hb
    replace m0 := below_cell hbk m0
    replace m1 := below_cell hbk m1
    replace m2 := below_cell hbk m2
    replace hlt_m0 : w.heap.size < w3.heap.size := World.block_lt_of_cell? w3 _ m0
    replace HM := Lib.hid (HM.out.below hbk)
    replace hB := bthen hB hbk
    obtain ⟨Xa, Xc, rfl, X⟩ := own_rdI hown
    replace X := Lib.hid X
    clear hown
    clear hbk hb
    go_wp2_with fail
    refine (r_Needed m _ a b width _ (by exact HM.out.below (Below.refl _ _))).mono ?_
    rintro e w4 ⟨v, rfl, hown, hb⟩
    rw [← hR.out] at hown ⊢
    have hbk : Below w3.heap.size w3 w4 := bthen (Below.refl _ _) hb
    replace m0 := below_cell hbk m0
    replace m1 := below_cell hbk m1
    replace m2 := below_cell hbk m2
    replace hlt_m0 : w.heap.size < w4.heap.size := World.block_lt_of_cell? w4 _ m0
    replace HM := Lib.hid (HM.out.below hbk)
    replace X := Lib.hid (X.out.below hbk)
    replace hB := bthen hB hbk
    obtain ⟨Ya, Yc, rfl, Y⟩ := own_rdI hown
    replace Y := Lib.hid Y
    clear hown
    clear hbk hb
    obtain ⟨RPrice, hRPrice⟩ : ∃ R, Hid (R = priceF m a b width offer) := ⟨_, Lib.hid rfl⟩
    go_wp2_with fail
    refine (k_Price m _ a b width offer _ (by exact HM.out.below (Below.refl _ _))).mono ?_
    rintro e w5 ⟨rfl, hb⟩
    rw [← hRPrice.out]
    have hbk : Below w4.heap.size w4 w5 := bthen (Below.refl _ _) hb
    replace m0 := below_cell hbk m0
    replace m1 := below_cell hbk m1
    replace m2 := below_cell hbk m2
    replace hlt_m0 : w.heap.size < w5.heap.size := World.block_lt_of_cell? w5 _ m0
    replace HM := Lib.hid (HM.out.below hbk)
    replace X := Lib.hid (X.out.below hbk)
    replace Y := Lib.hid (Y.out.below hbk)
    replace hB := bthen hB hbk
    clear hbk hb
    go_wp2_with fail
    refine (r_Price m _ a b width offer _ (by exact HM.out.below (Below.refl _ _))).mono ?_
    rintro e w6 ⟨rfl, hb⟩
    rw [← hRPrice.out]
    have hbk : Below w5.heap.size w5 w6 := bthen (Below.refl _ _) hb
    replace m0 := below_cell hbk m0
    replace m1 := below_cell hbk m1
    replace m2 := below_cell hbk m2
    replace hlt_m0 : w.heap.size < w6.heap.size := World.block_lt_of_cell? w6 _ m0
    replace HM := Lib.hid (HM.out.below hbk)
    replace X := Lib.hid (X.out.below hbk)
    replace Y := Lib.hid (Y.out.below hbk)
    replace hB := bthen hB hbk
    clear hbk hb
    obtain ⟨RLeast, hRLeast⟩ : ∃ R, Hid (R = leastF m a b cost) := ⟨_, Lib.hid rfl⟩
    go_wp2_with fail
    refine (k_Least m _ a b cost _ (by exact HM.out.below (Below.refl _ _))).mono ?_
    rintro e w7 ⟨rfl, hb⟩
    rw [← hRLeast.out]
    have hbk : Below w6.heap.size w6 w7 := bthen (Below.refl _ _) hb
    replace m0 := below_cell hbk m0
    replace m1 := below_cell hbk m1
    replace m2 := below_cell hbk m2
    replace hlt_m0 : w.heap.size < w7.heap.size := World.block_lt_of_cell? w7 _ m0
    replace HM := Lib.hid (HM.out.below hbk)
    replace X := Lib.hid (X.out.below hbk)
    replace Y := Lib.hid (Y.out.below hbk)
    replace hB := bthen hB hbk
    clear hbk hb
    go_wp2_with fail
    refine (r_Least m _ a b cost _ (by exact HM.out.below (Below.refl _ _))).mono ?_
    rintro e w8 ⟨rfl, hb⟩
    rw [← hRLeast.out]
    have hbk : Below w7.heap.size w7 w8 := bthen (Below.refl _ _) hb
    replace m0 := below_cell hbk m0
    replace m1 := below_cell hbk m1
    replace m2 := below_cell hbk m2
    replace hlt_m0 : w.heap.size < w8.heap.size := World.block_lt_of_cell? w8 _ m0
    replace HM := Lib.hid (HM.out.below hbk)
    replace X := Lib.hid (X.out.below hbk)
    replace Y := Lib.hid (Y.out.below hbk)
    replace hB := bthen hB hbk
    clear hbk hb
    go_wp2_with fail
    refine (c_Equal R.1 R.1 _ _ _ _ _ _ true _ rfl rfl (by simp) (by exact X.out.below (Below.refl _ _)) (by exact Y.out.below (Below.refl _ _)) HL HL).mono ?_
    rintro e w9 ⟨rfl, hb⟩
    have hbk : Below w8.heap.size w8 w9 := bthen (Below.refl _ _) hb
    replace m0 := below_cell hbk m0
    replace m1 := below_cell hbk m1
    replace m2 := below_cell hbk m2
    replace hlt_m0 : w.heap.size < w9.heap.size := World.block_lt_of_cell? w9 _ m0
    replace HM := Lib.hid (HM.out.below hbk)
    replace X := Lib.hid (X.out.below hbk)
    replace Y := Lib.hid (Y.out.below hbk)
    replace hB := bthen hB hbk
    clear hbk hb
    go_wp2
    go_ret
    exact ⟨rfl, hB⟩
end Go.Proofs.Ytjdldmecjhddnaa
