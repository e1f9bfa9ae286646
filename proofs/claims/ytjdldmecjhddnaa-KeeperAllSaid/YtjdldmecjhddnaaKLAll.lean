/- KeeperAll: what it computes is true. -/
import Derived.Test.YtjdldmecjhddnaaK18
import Derived.Test.YtjdldmecjhddnaaKM6
namespace Go.Proofs.Ytjdldmecjhddnaa
open Go.RowKit
set_option linter.unusedVariables false
set_option linter.unusedSimpArgs false

set_option maxHeartbeats 8000000 in
set_option maxRecDepth 100000 in
theorem law_All (m : Mk) (mv : Value) (a b width : Int) (w : World) (hm : MkRd w m mv) :
    Calls Try.prog 9 #[mv, .int .i64 a, .int .i64 b, .int .i64 width] w fun e w' => e = .returned (.bool true) ∧ Below w.heap.size w w' := by
  have HM := Lib.hid hm
  obtain ⟨ka, kc, oa, oc, rfl, _⟩ := hm
  cases hask : askedB m [] [a, b] with
  | false =>
    have HASK := Lib.hid hask
    clear hask
    go_enter Try.func9, Try.ntmps9
    go_wp2_with fail
    refine (l_sane _).mono ?_
    rintro e w1 ⟨rfl, hb⟩
    have hbk : Below w.heap.size w w1 := bthen (bal (Below.refl _ _) (.cells #[.int .i64 m.n, .slice ka m.ks.length kc, .slice oa m.os.length oc] 24)) hb
    have m0 := below_cell hb (show (w.alloc (.cells #[.int .i64 m.n, .slice ka m.ks.length kc, .slice oa m.os.length oc] 24)).cell? ⟨w.heap.size, 0, none⟩ = some (.int .i64 m.n) from by simp)
    have m1 := below_cell hb (show (w.alloc (.cells #[.int .i64 m.n, .slice ka m.ks.length kc, .slice oa m.os.length oc] 24)).cell? ⟨w.heap.size, 1, none⟩ = some (.slice ka m.ks.length kc) from by simp)
    have m2 := below_cell hb (show (w.alloc (.cells #[.int .i64 m.n, .slice ka m.ks.length kc, .slice oa m.os.length oc] 24)).cell? ⟨w.heap.size, 2, none⟩ = some (.slice oa m.os.length oc) from by simp)
    have hlt_m0 : w.heap.size < w1.heap.size := World.block_lt_of_cell? w1 _ m0
    replace HM := Lib.hid (HM.out.below hbk)
    have hB := hbk
    clear hbk hb
    go_wp2_with fail
    refine (l_asked m _ [] [a, b] none _ 0 _ 2 _ (by exact HM.out.below (bal (Below.refl _ _) (.cells #[.int .i64 a, .int .i64 b] 3))) Rd.nil (by simp) (by simpa using rdI_new w1 [a, b] 3 : RdI _ (some ⟨w1.heap.size, 0, none⟩) [a, b]) rfl (by decide)).mono ?_
    rintro e w2 ⟨rfl, hb⟩
    rw [HASK.out]
    have hbk : Below w1.heap.size w1 w2 := bthen (bal (Below.refl _ _) (.cells #[.int .i64 a, .int .i64 b] 3)) hb
    replace m0 := below_cell hbk m0
    replace m1 := below_cell hbk m1
    replace m2 := below_cell hbk m2
    replace hlt_m0 : w.heap.size < w2.heap.size := World.block_lt_of_cell? w2 _ m0
    replace HM := Lib.hid (HM.out.below hbk)
    replace hB := bthen hB hbk
    clear hbk hb
    go_wp2
    go_ret
    exact ⟨rfl, hB⟩
  | true =>
    have HASK := Lib.hid hask
    by_cases h0 : width < 0
    · clear hask
      go_enter Try.func9, Try.ntmps9
      go_wp2_with fail
      refine (l_sane _).mono ?_
      rintro e w1 ⟨rfl, hb⟩
      have hbk : Below w.heap.size w w1 := bthen (bal (Below.refl _ _) (.cells #[.int .i64 m.n, .slice ka m.ks.length kc, .slice oa m.os.length oc] 24)) hb
      have m0 := below_cell hb (show (w.alloc (.cells #[.int .i64 m.n, .slice ka m.ks.length kc, .slice oa m.os.length oc] 24)).cell? ⟨w.heap.size, 0, none⟩ = some (.int .i64 m.n) from by simp)
      have m1 := below_cell hb (show (w.alloc (.cells #[.int .i64 m.n, .slice ka m.ks.length kc, .slice oa m.os.length oc] 24)).cell? ⟨w.heap.size, 1, none⟩ = some (.slice ka m.ks.length kc) from by simp)
      have m2 := below_cell hb (show (w.alloc (.cells #[.int .i64 m.n, .slice ka m.ks.length kc, .slice oa m.os.length oc] 24)).cell? ⟨w.heap.size, 2, none⟩ = some (.slice oa m.os.length oc) from by simp)
      have hlt_m0 : w.heap.size < w1.heap.size := World.block_lt_of_cell? w1 _ m0
      replace HM := Lib.hid (HM.out.below hbk)
      have hB := hbk
      clear hbk hb
      go_wp2_with fail
      refine (l_asked m _ [] [a, b] none _ 0 _ 2 _ (by exact HM.out.below (bal (Below.refl _ _) (.cells #[.int .i64 a, .int .i64 b] 3))) Rd.nil (by simp) (by simpa using rdI_new w1 [a, b] 3 : RdI _ (some ⟨w1.heap.size, 0, none⟩) [a, b]) rfl (by decide)).mono ?_
      rintro e w2 ⟨rfl, hb⟩
      rw [HASK.out]
      have hbk : Below w1.heap.size w1 w2 := bthen (bal (Below.refl _ _) (.cells #[.int .i64 a, .int .i64 b] 3)) hb
      replace m0 := below_cell hbk m0
      replace m1 := below_cell hbk m1
      replace m2 := below_cell hbk m2
      replace hlt_m0 : w.heap.size < w2.heap.size := World.block_lt_of_cell? w2 _ m0
      replace HM := Lib.hid (HM.out.below hbk)
      replace hB := bthen hB hbk
      clear hbk hb
      go_wp2
      go_ret
      exact ⟨rfl, hB⟩
    by_cases h1 : 16777216 < width
    · clear hask
      have h0' : 0 ≤ width := by omega
      go_enter Try.func9, Try.ntmps9
      go_wp2_with fail
      refine (l_sane _).mono ?_
      rintro e w1 ⟨rfl, hb⟩
      have hbk : Below w.heap.size w w1 := bthen (bal (Below.refl _ _) (.cells #[.int .i64 m.n, .slice ka m.ks.length kc, .slice oa m.os.length oc] 24)) hb
      have m0 := below_cell hb (show (w.alloc (.cells #[.int .i64 m.n, .slice ka m.ks.length kc, .slice oa m.os.length oc] 24)).cell? ⟨w.heap.size, 0, none⟩ = some (.int .i64 m.n) from by simp)
      have m1 := below_cell hb (show (w.alloc (.cells #[.int .i64 m.n, .slice ka m.ks.length kc, .slice oa m.os.length oc] 24)).cell? ⟨w.heap.size, 1, none⟩ = some (.slice ka m.ks.length kc) from by simp)
      have m2 := below_cell hb (show (w.alloc (.cells #[.int .i64 m.n, .slice ka m.ks.length kc, .slice oa m.os.length oc] 24)).cell? ⟨w.heap.size, 2, none⟩ = some (.slice oa m.os.length oc) from by simp)
      have hlt_m0 : w.heap.size < w1.heap.size := World.block_lt_of_cell? w1 _ m0
      replace HM := Lib.hid (HM.out.below hbk)
      have hB := hbk
      clear hbk hb
      go_wp2_with fail
      refine (l_asked m _ [] [a, b] none _ 0 _ 2 _ (by exact HM.out.below (bal (Below.refl _ _) (.cells #[.int .i64 a, .int .i64 b] 3))) Rd.nil (by simp) (by simpa using rdI_new w1 [a, b] 3 : RdI _ (some ⟨w1.heap.size, 0, none⟩) [a, b]) rfl (by decide)).mono ?_
      rintro e w2 ⟨rfl, hb⟩
      rw [HASK.out]
      have hbk : Below w1.heap.size w1 w2 := bthen (bal (Below.refl _ _) (.cells #[.int .i64 a, .int .i64 b] 3)) hb
      replace m0 := below_cell hbk m0
      replace m1 := below_cell hbk m1
      replace m2 := below_cell hbk m2
      replace hlt_m0 : w.heap.size < w2.heap.size := World.block_lt_of_cell? w2 _ m0
      replace HM := Lib.hid (HM.out.below hbk)
      replace hB := bthen hB hbk
      clear hbk hb
      go_wp2
      go_ret
      exact ⟨rfl, hB⟩
    have h0' : 0 ≤ width := by omega
    have h1' : width ≤ 16777216 := by omega
    cases hs : leastS m.os (fun s => allS m s width) with
    | none =>
      obtain ⟨bl, bb, rl, rb, e1, e2, e3, e4, lr, LR, LB'⟩ := all_none hask h0' h1' hs
      have HT := Lib.hid e1
      have HBE := Lib.hid e2
      have HTR := Lib.hid e3
      have HTW := Lib.hid e4
      have t1 : (rb != rb) = false := by cases rb <;> rfl
      clear hask hs h0 h1 e1 e2 e3 e4
      go_enter Try.func9, Try.ntmps9
      go_wp2_with fail
      refine (l_sane _).mono ?_
      rintro e w1 ⟨rfl, hb⟩
      have hbk : Below w.heap.size w w1 := bthen (bal (Below.refl _ _) (.cells #[.int .i64 m.n, .slice ka m.ks.length kc, .slice oa m.os.length oc] 24)) hb
      have m0 := below_cell hb (show (w.alloc (.cells #[.int .i64 m.n, .slice ka m.ks.length kc, .slice oa m.os.length oc] 24)).cell? ⟨w.heap.size, 0, none⟩ = some (.int .i64 m.n) from by simp)
      have m1 := below_cell hb (show (w.alloc (.cells #[.int .i64 m.n, .slice ka m.ks.length kc, .slice oa m.os.length oc] 24)).cell? ⟨w.heap.size, 1, none⟩ = some (.slice ka m.ks.length kc) from by simp)
      have m2 := below_cell hb (show (w.alloc (.cells #[.int .i64 m.n, .slice ka m.ks.length kc, .slice oa m.os.length oc] 24)).cell? ⟨w.heap.size, 2, none⟩ = some (.slice oa m.os.length oc) from by simp)
      have hlt_m0 : w.heap.size < w1.heap.size := World.block_lt_of_cell? w1 _ m0
      replace HM := Lib.hid (HM.out.below hbk)
      have hB := hbk
      clear hbk hb
      go_wp2_with fail
      refine (l_asked m _ [] [a, b] none _ 0 _ 2 _ (by exact HM.out.below (bal (Below.refl _ _) (.cells #[.int .i64 a, .int .i64 b] 3))) Rd.nil (by simp) (by simpa using rdI_new w1 [a, b] 3 : RdI _ (some ⟨w1.heap.size, 0, none⟩) [a, b]) rfl (by decide)).mono ?_
      rintro e w2 ⟨rfl, hb⟩
      rw [HASK.out]
      have hbk : Below w1.heap.size w1 w2 := bthen (bal (Below.refl _ _) (.cells #[.int .i64 a, .int .i64 b] 3)) hb
      replace m0 := below_cell hbk m0
      replace m1 := below_cell hbk m1
      replace m2 := below_cell hbk m2
      replace hlt_m0 : w.heap.size < w2.heap.size := World.block_lt_of_cell? w2 _ m0
      replace HM := Lib.hid (HM.out.below hbk)
      replace hB := bthen hB hbk
      clear hbk hb
      go_wp2_with fail
      refine (k_Together m _ width _ (by exact HM.out.below (Below.refl _ _))).mono ?_
      rintro e w3 ⟨v, rfl, hown, hb⟩
      rw [HT.out] at hown ⊢
      have hbk : Below w2.heap.size w2 w3 := bthen (Below.refl _ _) hb
      replace m0 := below_cell hbk m0
      replace m1 := below_cell hbk m1
      replace m2 := below_cell hbk m2
      replace hlt_m0 : w.heap.size < w3.heap.size := World.block_lt_of_cell? w3 _ m0
      replace HM := Lib.hid (HM.out.below hbk)
      replace hB := bthen hB hbk
      obtain ⟨Ta, Tc, rfl, T⟩ := own_rdI hown
      replace T := Lib.hid T
      clear hown
      clear hbk hb
      go_wp2_with fail
      refine (k_Best m _ a b width _ (by exact HM.out.below (Below.refl _ _))).mono ?_
      rintro e w4 ⟨v, rfl, hown, hb⟩
      rw [HBE.out] at hown ⊢
      have hbk : Below w3.heap.size w3 w4 := bthen (Below.refl _ _) hb
      replace m0 := below_cell hbk m0
      replace m1 := below_cell hbk m1
      replace m2 := below_cell hbk m2
      replace hlt_m0 : w.heap.size < w4.heap.size := World.block_lt_of_cell? w4 _ m0
      replace HM := Lib.hid (HM.out.below hbk)
      replace T := Lib.hid (T.out.below hbk)
      replace hB := bthen hB hbk
      obtain ⟨Ba, Bc, rfl, B⟩ := own_rdI hown
      replace B := Lib.hid B
      clear hown
      clear hbk hb
      go_wp2_with fail
      refine (k_Tree m _ _ (by exact HM.out.below (Below.refl _ _))).mono ?_
      rintro e w5 ⟨v, rfl, hown, hb⟩
      rw [HTR.out] at hown ⊢
      have hbk : Below w4.heap.size w4 w5 := bthen (Below.refl _ _) hb
      replace m0 := below_cell hbk m0
      replace m1 := below_cell hbk m1
      replace m2 := below_cell hbk m2
      replace hlt_m0 : w.heap.size < w5.heap.size := World.block_lt_of_cell? w5 _ m0
      replace HM := Lib.hid (HM.out.below hbk)
      replace T := Lib.hid (T.out.below hbk)
      replace B := Lib.hid (B.out.below hbk)
      replace hB := bthen hB hbk
      obtain ⟨Ra, Rc, rfl, R⟩ := own_rdI hown
      replace R := Lib.hid R
      clear hown
      clear hbk hb
      go_wp2_with fail
      refine (k_Together m _ 16777216 _ (by exact HM.out.below (Below.refl _ _))).mono ?_
      rintro e w6 ⟨v, rfl, hown, hb⟩
      rw [HTW.out] at hown ⊢
      have hbk : Below w5.heap.size w5 w6 := bthen (Below.refl _ _) hb
      replace m0 := below_cell hbk m0
      replace m1 := below_cell hbk m1
      replace m2 := below_cell hbk m2
      replace hlt_m0 : w.heap.size < w6.heap.size := World.block_lt_of_cell? w6 _ m0
      replace HM := Lib.hid (HM.out.below hbk)
      replace T := Lib.hid (T.out.below hbk)
      replace B := Lib.hid (B.out.below hbk)
      replace R := Lib.hid (R.out.below hbk)
      replace hB := bthen hB hbk
      obtain ⟨Sa, Sc, rfl, S⟩ := own_rdI hown
      replace S := Lib.hid S
      clear hown
      clear hbk hb
      go_wp2_with fail
      refine (c_Equal rl rl _ _ _ _ _ _ true _ rfl rfl (by simp) (by exact R.out.below (Below.refl _ _)) (by exact S.out.below (Below.refl _ _)) LR LR).mono ?_
      rintro e w7 ⟨rfl, hb⟩
      have hbk : Below w6.heap.size w6 w7 := bthen (Below.refl _ _) hb
      replace m0 := below_cell hbk m0
      replace m1 := below_cell hbk m1
      replace m2 := below_cell hbk m2
      replace hlt_m0 : w.heap.size < w7.heap.size := World.block_lt_of_cell? w7 _ m0
      replace HM := Lib.hid (HM.out.below hbk)
      replace T := Lib.hid (T.out.below hbk)
      replace B := Lib.hid (B.out.below hbk)
      replace R := Lib.hid (R.out.below hbk)
      replace S := Lib.hid (S.out.below hbk)
      replace hB := bthen hB hbk
      clear hbk hb
      clear S
      go_wp2
      go_ret
      exact ⟨rfl, hB⟩
    | some s =>
      obtain ⟨tl, bl, rl, ct, cb, cr, x, e1, e2, e3, e4, lr, LR, LB', LT, e5, e6, e7, e8, q1, q2, q3⟩ := all_some hask h0' h1' hs
      have HT := Lib.hid e1
      have HBE := Lib.hid e2
      have HTR := Lib.hid e3
      have HTW := Lib.hid e4
      have HCT := Lib.hid e5
      have HCB := Lib.hid e6
      have HCR := Lib.hid e7
      have HWD := Lib.hid e8
      clear hask hs h0 h1 e1 e2 e3 e4 e5 e6 e7 e8
      go_enter Try.func9, Try.ntmps9
      go_wp2_with fail
      refine (l_sane _).mono ?_
      rintro e w1 ⟨rfl, hb⟩
      have hbk : Below w.heap.size w w1 := bthen (bal (Below.refl _ _) (.cells #[.int .i64 m.n, .slice ka m.ks.length kc, .slice oa m.os.length oc] 24)) hb
      have m0 := below_cell hb (show (w.alloc (.cells #[.int .i64 m.n, .slice ka m.ks.length kc, .slice oa m.os.length oc] 24)).cell? ⟨w.heap.size, 0, none⟩ = some (.int .i64 m.n) from by simp)
      have m1 := below_cell hb (show (w.alloc (.cells #[.int .i64 m.n, .slice ka m.ks.length kc, .slice oa m.os.length oc] 24)).cell? ⟨w.heap.size, 1, none⟩ = some (.slice ka m.ks.length kc) from by simp)
      have m2 := below_cell hb (show (w.alloc (.cells #[.int .i64 m.n, .slice ka m.ks.length kc, .slice oa m.os.length oc] 24)).cell? ⟨w.heap.size, 2, none⟩ = some (.slice oa m.os.length oc) from by simp)
      have hlt_m0 : w.heap.size < w1.heap.size := World.block_lt_of_cell? w1 _ m0
      replace HM := Lib.hid (HM.out.below hbk)
      have hB := hbk
      clear hbk hb
      go_wp2_with fail
      refine (l_asked m _ [] [a, b] none _ 0 _ 2 _ (by exact HM.out.below (bal (Below.refl _ _) (.cells #[.int .i64 a, .int .i64 b] 3))) Rd.nil (by simp) (by simpa using rdI_new w1 [a, b] 3 : RdI _ (some ⟨w1.heap.size, 0, none⟩) [a, b]) rfl (by decide)).mono ?_
      rintro e w2 ⟨rfl, hb⟩
      rw [HASK.out]
      have hbk : Below w1.heap.size w1 w2 := bthen (bal (Below.refl _ _) (.cells #[.int .i64 a, .int .i64 b] 3)) hb
      replace m0 := below_cell hbk m0
      replace m1 := below_cell hbk m1
      replace m2 := below_cell hbk m2
      replace hlt_m0 : w.heap.size < w2.heap.size := World.block_lt_of_cell? w2 _ m0
      replace HM := Lib.hid (HM.out.below hbk)
      replace hB := bthen hB hbk
      clear hbk hb
      go_wp2_with fail
      refine (k_Together m _ width _ (by exact HM.out.below (Below.refl _ _))).mono ?_
      rintro e w3 ⟨v, rfl, hown, hb⟩
      rw [HT.out] at hown ⊢
      have hbk : Below w2.heap.size w2 w3 := bthen (Below.refl _ _) hb
      replace m0 := below_cell hbk m0
      replace m1 := below_cell hbk m1
      replace m2 := below_cell hbk m2
      replace hlt_m0 : w.heap.size < w3.heap.size := World.block_lt_of_cell? w3 _ m0
      replace HM := Lib.hid (HM.out.below hbk)
      replace hB := bthen hB hbk
      obtain ⟨Ta, Tc, rfl, T⟩ := own_rdI hown
      replace T := Lib.hid T
      clear hown
      clear hbk hb
      go_wp2_with fail
      refine (k_Best m _ a b width _ (by exact HM.out.below (Below.refl _ _))).mono ?_
      rintro e w4 ⟨v, rfl, hown, hb⟩
      rw [HBE.out] at hown ⊢
      have hbk : Below w3.heap.size w3 w4 := bthen (Below.refl _ _) hb
      replace m0 := below_cell hbk m0
      replace m1 := below_cell hbk m1
      replace m2 := below_cell hbk m2
      replace hlt_m0 : w.heap.size < w4.heap.size := World.block_lt_of_cell? w4 _ m0
      replace HM := Lib.hid (HM.out.below hbk)
      replace T := Lib.hid (T.out.below hbk)
      replace hB := bthen hB hbk
      obtain ⟨Ba, Bc, rfl, B⟩ := own_rdI hown
      replace B := Lib.hid B
      clear hown
      clear hbk hb
      go_wp2_with fail
      refine (k_Tree m _ _ (by exact HM.out.below (Below.refl _ _))).mono ?_
      rintro e w5 ⟨v, rfl, hown, hb⟩
      rw [HTR.out] at hown ⊢
      have hbk : Below w4.heap.size w4 w5 := bthen (Below.refl _ _) hb
      replace m0 := below_cell hbk m0
      replace m1 := below_cell hbk m1
      replace m2 := below_cell hbk m2
      replace hlt_m0 : w.heap.size < w5.heap.size := World.block_lt_of_cell? w5 _ m0
      replace HM := Lib.hid (HM.out.below hbk)
      replace T := Lib.hid (T.out.below hbk)
      replace B := Lib.hid (B.out.below hbk)
      replace hB := bthen hB hbk
      obtain ⟨Ra, Rc, rfl, R⟩ := own_rdI hown
      replace R := Lib.hid R
      clear hown
      clear hbk hb
      go_wp2_with fail
      refine (k_Together m _ 16777216 _ (by exact HM.out.below (Below.refl _ _))).mono ?_
      rintro e w6 ⟨v, rfl, hown, hb⟩
      rw [HTW.out] at hown ⊢
      have hbk : Below w5.heap.size w5 w6 := bthen (Below.refl _ _) hb
      replace m0 := below_cell hbk m0
      replace m1 := below_cell hbk m1
      replace m2 := below_cell hbk m2
      replace hlt_m0 : w.heap.size < w6.heap.size := World.block_lt_of_cell? w6 _ m0
      replace HM := Lib.hid (HM.out.below hbk)
      replace T := Lib.hid (T.out.below hbk)
      replace B := Lib.hid (B.out.below hbk)
      replace R := Lib.hid (R.out.below hbk)
      replace hB := bthen hB hbk
      obtain ⟨Sa, Sc, rfl, S⟩ := own_rdI hown
      replace S := Lib.hid S
      clear hown
      clear hbk hb
      go_wp2_with fail
      refine (c_Equal rl rl _ _ _ _ _ _ true _ rfl rfl (by simp) (by exact R.out.below (Below.refl _ _)) (by exact S.out.below (Below.refl _ _)) LR LR).mono ?_
      rintro e w7 ⟨rfl, hb⟩
      have hbk : Below w6.heap.size w6 w7 := bthen (Below.refl _ _) hb
      replace m0 := below_cell hbk m0
      replace m1 := below_cell hbk m1
      replace m2 := below_cell hbk m2
      replace hlt_m0 : w.heap.size < w7.heap.size := World.block_lt_of_cell? w7 _ m0
      replace HM := Lib.hid (HM.out.below hbk)
      replace T := Lib.hid (T.out.below hbk)
      replace B := Lib.hid (B.out.below hbk)
      replace R := Lib.hid (R.out.below hbk)
      replace S := Lib.hid (S.out.below hbk)
      replace hB := bthen hB hbk
      clear hbk hb
      clear S
      go_wp2_with fail
      refine (k_Cost m _ tl _ _ _ (by exact HM.out.below (Below.refl _ _)) (by exact T.out.below (Below.refl _ _)) LT).mono ?_
      rintro e w8 ⟨rfl, hb⟩
      rw [HCT.out]
      have hbk : Below w7.heap.size w7 w8 := bthen (Below.refl _ _) hb
      replace m0 := below_cell hbk m0
      replace m1 := below_cell hbk m1
      replace m2 := below_cell hbk m2
      replace hlt_m0 : w.heap.size < w8.heap.size := World.block_lt_of_cell? w8 _ m0
      replace HM := Lib.hid (HM.out.below hbk)
      replace T := Lib.hid (T.out.below hbk)
      replace B := Lib.hid (B.out.below hbk)
      replace R := Lib.hid (R.out.below hbk)
      replace hB := bthen hB hbk
      clear hbk hb
      go_wp2_with fail
      refine (k_Cost m _ bl _ _ _ (by exact HM.out.below (Below.refl _ _)) (by exact B.out.below (Below.refl _ _)) LB').mono ?_
      rintro e w9 ⟨rfl, hb⟩
      rw [HCB.out]
      have hbk : Below w8.heap.size w8 w9 := bthen (Below.refl _ _) hb
      replace m0 := below_cell hbk m0
      replace m1 := below_cell hbk m1
      replace m2 := below_cell hbk m2
      replace hlt_m0 : w.heap.size < w9.heap.size := World.block_lt_of_cell? w9 _ m0
      replace HM := Lib.hid (HM.out.below hbk)
      replace T := Lib.hid (T.out.below hbk)
      replace B := Lib.hid (B.out.below hbk)
      replace R := Lib.hid (R.out.below hbk)
      replace hB := bthen hB hbk
      clear hbk hb
      go_wp2_with fail
      refine (k_Cost m _ rl _ _ _ (by exact HM.out.below (Below.refl _ _)) (by exact R.out.below (Below.refl _ _)) LR).mono ?_
      rintro e w10 ⟨rfl, hb⟩
      rw [HCR.out]
      have hbk : Below w9.heap.size w9 w10 := bthen (Below.refl _ _) hb
      replace m0 := below_cell hbk m0
      replace m1 := below_cell hbk m1
      replace m2 := below_cell hbk m2
      replace hlt_m0 : w.heap.size < w10.heap.size := World.block_lt_of_cell? w10 _ m0
      replace HM := Lib.hid (HM.out.below hbk)
      replace T := Lib.hid (T.out.below hbk)
      replace B := Lib.hid (B.out.below hbk)
      replace R := Lib.hid (R.out.below hbk)
      replace hB := bthen hB hbk
      clear hbk hb
      go_wp2_with fail
      refine (k_Width m _ tl _ _ a b _ (by exact HM.out.below (Below.refl _ _)) (by exact T.out.below (Below.refl _ _)) LT).mono ?_
      rintro e w11 ⟨rfl, hb⟩
      rw [HWD.out]
      have hbk : Below w10.heap.size w10 w11 := bthen (Below.refl _ _) hb
      replace m0 := below_cell hbk m0
      replace m1 := below_cell hbk m1
      replace m2 := below_cell hbk m2
      replace hlt_m0 : w.heap.size < w11.heap.size := World.block_lt_of_cell? w11 _ m0
      replace HM := Lib.hid (HM.out.below hbk)
      replace T := Lib.hid (T.out.below hbk)
      replace B := Lib.hid (B.out.below hbk)
      replace R := Lib.hid (R.out.below hbk)
      replace hB := bthen hB hbk
      clear hbk hb
      go_wp2
      go_ret
      exact ⟨rfl, hB⟩
end Go.Proofs.Ytjdldmecjhddnaa
