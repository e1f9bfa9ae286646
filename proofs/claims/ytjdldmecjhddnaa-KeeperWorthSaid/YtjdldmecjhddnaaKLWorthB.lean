/- KeeperWorth: what it computes is true, case B. -/
import Derived.Test.YtjdldmecjhddnaaK18
import Derived.Test.YtjdldmecjhddnaaKM7
import Derived.Test.YtjdldmecjhddnaaKA3
namespace Go.Proofs.Ytjdldmecjhddnaa
open Go.RowKit
set_option linter.unusedVariables false
set_option linter.unusedSimpArgs false

set_option maxHeartbeats 8000000 in
set_option maxRecDepth 100000 in
theorem worth_B0 (m : Mk) (mv : Value) (a b width : Int) (x : Nat) (w : World) (hm : MkRd w m mv) (hask : askedB m [] [a, b] = true) (h0' : 0 ≤ width) (h1' : width ≤ 16777216) (x0 : (0 : Int) ≤ (x : Int)) (x1 : (x : Int) < m.os.length) (bl nl : List Int) (n c v1 v2 : Int) (e1 : bestF m a b width = (bl, true, 0)) (e2 : neededF m a b width = (nl, 0)) (e3 : priceF m a b width x = (n, true, 0)) (ci : decide ((x : Int) ∈ bl) = true) (cn : decide ((x : Int) ∈ nl) = false) (LB' : bl.length ≤ 140737488355328) (LN : nl.length ≤ 140737488355328) (hn : n = 0) (e4 : costF m bl = (c, 0)) (e5 : leastF m a b c = (v1, true, 0)) (q1 : v1 ≤ width) (hc : c = 0) :
    Calls Try.prog 10 #[mv, .int .i64 a, .int .i64 b, .int .i64 width, .int .i64 x] w fun e w' => e = .returned (.bool true) ∧ Below w.heap.size w w' := by
  have HM := Lib.hid hm
  obtain ⟨ka, kc, oa, oc, rfl, _⟩ := hm
  have HASK := Lib.hid hask
  have HBE := Lib.hid e1
  have HNE := Lib.hid e2
  have HPR := Lib.hid e3
  have HCI := Lib.hid ci
  have HCN := Lib.hid cn
  have HCO := Lib.hid e4
  have HL1 := Lib.hid e5
  clear hask e1 e2 e3 ci cn e4 e5
  subst hn
  subst hc
  go_enter Try.func10, Try.ntmps10
  go_wp2_with fail
  refine (l_sane _).mono ?_
  rintro e w1 ⟨rfl, hb⟩
  have hbk : Below w.heap.size w w1 := bthen (bal (Below.refl _ _) (.cells #[.int .i64 m.n, .slice ka m.ks.length kc, .slice oa m.os.length oc] 24)) hb
  have m0 := below_cell hb (show (w.alloc (.cells #[.int .i64 m.n, .slice ka m.ks.length kc, .slice oa m.os.length oc] 24)).cell? ⟨w.heap.size, 0, none⟩ = some (.int .i64 m.n) from by simp)
  have m1 := below_cell hb (show (w.alloc (.cells #[.int .i64 m.n, .slice ka m.ks.length kc, .slice oa m.os.length oc] 24)).cell? ⟨w.heap.size, 1, none⟩ = some (.slice ka m.ks.length kc) from by simp)
  have m2 := below_cell hb (show (w.alloc (.cells #[.int .i64 m.n, .slice ka m.ks.length kc, .slice oa m.os.length oc] 24)).cell? ⟨w.heap.size, 2, none⟩ = some (.slice oa m.os.length oc) from by simp)
  have hlt_m0 : w.heap.size < w1.heap.size := World.block_lt_of_cell? w1 _ m0
  replace HM := Lib.hid (HM.out.below hbk)
  have hB := hbk
  clear hbk hb
  go_wp2_with fail
  refine (l_asked m _ [] [a, b] none _ 0 _ 2 _ (by exact HM.out.below (bal (Below.refl _ _) (.cells #[.int .i64 a, .int .i64 b] 3))) Rd.nil (by simp) (by simpa using rdI_new w1 [a, b] 3 : RdI _ (some ⟨w1.heap.size, 0, none⟩) [a, b]) rfl (by decide)).mono ?_
  rintro e w2 ⟨rfl, hb⟩
  rw [HASK.out]
  have hbk : Below w1.heap.size w1 w2 := bthen (bal (Below.refl _ _) (.cells #[.int .i64 a, .int .i64 b] 3)) hb
  replace m0 := below_cell hbk m0
  replace m1 := below_cell hbk m1
  replace m2 := below_cell hbk m2
  replace hlt_m0 : w.heap.size < w2.heap.size := World.block_lt_of_cell? w2 _ m0
  replace HM := Lib.hid (HM.out.below hbk)
  replace hB := bthen hB hbk
  clear hbk hb
  go_wp2_with fail
  refine (k_Best m _ a b width _ (by exact HM.out.below (Below.refl _ _))).mono ?_
  rintro e w3 ⟨v, rfl, hown, hb⟩
  rw [HBE.out] at hown ⊢
  have hbk : Below w2.heap.size w2 w3 := bthen (Below.refl _ _) hb
  replace m0 := below_cell hbk m0
  replace m1 := below_cell hbk m1
  replace m2 := below_cell hbk m2
  replace hlt_m0 : w.heap.size < w3.heap.size := World.block_lt_of_cell? w3 _ m0
  replace HM := Lib.hid (HM.out.below hbk)
  replace hB := bthen hB hbk
  obtain ⟨Ba, Bc, rfl, B⟩ := own_rdI hown
  replace B := Lib.hid B
  clear hown
  clear hbk hb
  go_wp2_with fail
  refine (k_Needed m _ a b width _ (by exact HM.out.below (Below.refl _ _))).mono ?_
  rintro e w4 ⟨v, rfl, hown, hb⟩
  rw [HNE.out] at hown ⊢
  have hbk : Below w3.heap.size w3 w4 := bthen (Below.refl _ _) hb
  replace m0 := below_cell hbk m0
  replace m1 := below_cell hbk m1
  replace m2 := below_cell hbk m2
  replace hlt_m0 : w.heap.size < w4.heap.size := World.block_lt_of_cell? w4 _ m0
  replace HM := Lib.hid (HM.out.below hbk)
  replace B := Lib.hid (B.out.below hbk)
  replace hB := bthen hB hbk
  obtain ⟨Da, Dc, rfl, D⟩ := own_rdI hown
  replace D := Lib.hid D
  clear hown
  clear hbk hb
  go_wp2_with fail
  refine (k_Price m _ a b width x _ (by exact HM.out.below (Below.refl _ _))).mono ?_
  rintro e w5 ⟨rfl, hb⟩
  rw [HPR.out]
  have hbk : Below w4.heap.size w4 w5 := bthen (Below.refl _ _) hb
  replace m0 := below_cell hbk m0
  replace m1 := below_cell hbk m1
  replace m2 := below_cell hbk m2
  replace hlt_m0 : w.heap.size < w5.heap.size := World.block_lt_of_cell? w5 _ m0
  replace HM := Lib.hid (HM.out.below hbk)
  replace B := Lib.hid (B.out.below hbk)
  replace D := Lib.hid (D.out.below hbk)
  replace hB := bthen hB hbk
  clear hbk hb
  go_wp2_with fail
  refine (c_ContainsB bl x _ _ _ true _ rfl HCI.out (by exact B.out.below (Below.refl _ _)) LB').mono ?_
  rintro e w6 ⟨rfl, hb⟩
  have hbk : Below w5.heap.size w5 w6 := bthen (Below.refl _ _) hb
  replace m0 := below_cell hbk m0
  replace m1 := below_cell hbk m1
  replace m2 := below_cell hbk m2
  replace hlt_m0 : w.heap.size < w6.heap.size := World.block_lt_of_cell? w6 _ m0
  replace HM := Lib.hid (HM.out.below hbk)
  replace B := Lib.hid (B.out.below hbk)
  replace D := Lib.hid (D.out.below hbk)
  replace hB := bthen hB hbk
  clear hbk hb
  go_wp2_with fail
  refine (c_ContainsB nl x _ _ _ false _ rfl HCN.out (by exact D.out.below (Below.refl _ _)) LN).mono ?_
  rintro e w7 ⟨rfl, hb⟩
  have hbk : Below w6.heap.size w6 w7 := bthen (Below.refl _ _) hb
  replace m0 := below_cell hbk m0
  replace m1 := below_cell hbk m1
  replace m2 := below_cell hbk m2
  replace hlt_m0 : w.heap.size < w7.heap.size := World.block_lt_of_cell? w7 _ m0
  replace HM := Lib.hid (HM.out.below hbk)
  replace B := Lib.hid (B.out.below hbk)
  replace D := Lib.hid (D.out.below hbk)
  replace hB := bthen hB hbk
  clear hbk hb
  clear D
  go_wp2_with fail
  refine (k_Cost m _ bl _ _ _ (by exact HM.out.below (Below.refl _ _)) (by exact B.out.below (Below.refl _ _)) LB').mono ?_
  rintro e w8 ⟨rfl, hb⟩
  rw [HCO.out]
  have hbk : Below w7.heap.size w7 w8 := bthen (Below.refl _ _) hb
  replace m0 := below_cell hbk m0
  replace m1 := below_cell hbk m1
  replace m2 := below_cell hbk m2
  replace hlt_m0 : w.heap.size < w8.heap.size := World.block_lt_of_cell? w8 _ m0
  replace HM := Lib.hid (HM.out.below hbk)
  replace B := Lib.hid (B.out.below hbk)
  replace hB := bthen hB hbk
  clear hbk hb
  go_wp2_with fail
  refine (k_Least m _ a b 0 _ (by exact HM.out.below (Below.refl _ _))).mono ?_
  rintro e w9 ⟨rfl, hb⟩
  rw [HL1.out]
  have hbk : Below w8.heap.size w8 w9 := bthen (Below.refl _ _) hb
  replace m0 := below_cell hbk m0
  replace m1 := below_cell hbk m1
  replace m2 := below_cell hbk m2
  replace hlt_m0 : w.heap.size < w9.heap.size := World.block_lt_of_cell? w9 _ m0
  replace HM := Lib.hid (HM.out.below hbk)
  replace B := Lib.hid (B.out.below hbk)
  replace hB := bthen hB hbk
  clear hbk hb
  go_wp2
  go_ret
  exact ⟨rfl, hB⟩
set_option maxHeartbeats 8000000 in
set_option maxRecDepth 100000 in
theorem worth_B1 (m : Mk) (mv : Value) (a b width : Int) (x : Nat) (w : World) (hm : MkRd w m mv) (hask : askedB m [] [a, b] = true) (h0' : 0 ≤ width) (h1' : width ≤ 16777216) (x0 : (0 : Int) ≤ (x : Int)) (x1 : (x : Int) < m.os.length) (bl nl : List Int) (n c v1 v2 : Int) (e1 : bestF m a b width = (bl, true, 0)) (e2 : neededF m a b width = (nl, 0)) (e3 : priceF m a b width x = (n, true, 0)) (ci : decide ((x : Int) ∈ bl) = true) (cn : decide ((x : Int) ∈ nl) = false) (LB' : bl.length ≤ 140737488355328) (LN : nl.length ≤ 140737488355328) (hn : n = 0) (e4 : costF m bl = (c, 0)) (e5 : leastF m a b c = (v1, true, 0)) (q1 : v1 ≤ width) (w2b : Bool) (c0 : 0 ≤ c) (c1 : c ≤ 120000) (hc : c ≠ 0) (e6 : leastF m a b (c - 1) = (v2, w2b, 0)) (q2 : w2b = true → width < v2) :
    Calls Try.prog 10 #[mv, .int .i64 a, .int .i64 b, .int .i64 width, .int .i64 x] w fun e w' => e = .returned (.bool true) ∧ Below w.heap.size w w' := by
  have HM := Lib.hid hm
  obtain ⟨ka, kc, oa, oc, rfl, _⟩ := hm
  have HASK := Lib.hid hask
  have HBE := Lib.hid e1
  have HNE := Lib.hid e2
  have HPR := Lib.hid e3
  have HCI := Lib.hid ci
  have HCN := Lib.hid cn
  have HCO := Lib.hid e4
  have HL1 := Lib.hid e5
  clear hask e1 e2 e3 ci cn e4 e5
  subst hn
  have HL2 := Lib.hid e6
  have t1 : IntKind.i64.wrap (c - 1) = c - 1 := by rw [IntKind.wrap_i64]; omega
  have t2 : (c == 0) = false := by simp [hc]
  clear e6
  cases w2b with
  | true =>
    have q3 := q2 rfl
    clear q2
    go_enter Try.func10, Try.ntmps10
    go_wp2_with fail
    refine (l_sane _).mono ?_
    rintro e w1 ⟨rfl, hb⟩
    have hbk : Below w.heap.size w w1 := bthen (bal (Below.refl _ _) (.cells #[.int .i64 m.n, .slice ka m.ks.length kc, .slice oa m.os.length oc] 24)) hb
    have m0 := below_cell hb (show (w.alloc (.cells #[.int .i64 m.n, .slice ka m.ks.length kc, .slice oa m.os.length oc] 24)).cell? ⟨w.heap.size, 0, none⟩ = some (.int .i64 m.n) from by simp)
    have m1 := below_cell hb (show (w.alloc (.cells #[.int .i64 m.n, .slice ka m.ks.length kc, .slice oa m.os.length oc] 24)).cell? ⟨w.heap.size, 1, none⟩ = some (.slice ka m.ks.length kc) from by simp)
    have m2 := below_cell hb (show (w.alloc (.cells #[.int .i64 m.n, .slice ka m.ks.length kc, .slice oa m.os.length oc] 24)).cell? ⟨w.heap.size, 2, none⟩ = some (.slice oa m.os.length oc) from by simp)
    have hlt_m0 : w.heap.size < w1.heap.size := World.block_lt_of_cell? w1 _ m0
    replace HM := Lib.hid (HM.out.below hbk)
    have hB := hbk
    clear hbk hb
    go_wp2_with fail
    refine (l_asked m _ [] [a, b] none _ 0 _ 2 _ (by exact HM.out.below (bal (Below.refl _ _) (.cells #[.int .i64 a, .int .i64 b] 3))) Rd.nil (by simp) (by simpa using rdI_new w1 [a, b] 3 : RdI _ (some ⟨w1.heap.size, 0, none⟩) [a, b]) rfl (by decide)).mono ?_
    rintro e w2 ⟨rfl, hb⟩
    rw [HASK.out]
    have hbk : Below w1.heap.size w1 w2 := bthen (bal (Below.refl _ _) (.cells #[.int .i64 a, .int .i64 b] 3)) hb
    replace m0 := below_cell hbk m0
    replace m1 := below_cell hbk m1
    replace m2 := below_cell hbk m2
    replace hlt_m0 : w.heap.size < w2.heap.size := World.block_lt_of_cell? w2 _ m0
    replace HM := Lib.hid (HM.out.below hbk)
    replace hB := bthen hB hbk
    clear hbk hb
    go_wp2_with fail
    refine (k_Best m _ a b width _ (by exact HM.out.below (Below.refl _ _))).mono ?_
    rintro e w3 ⟨v, rfl, hown, hb⟩
    rw [HBE.out] at hown ⊢
    have hbk : Below w2.heap.size w2 w3 := bthen (Below.refl _ _) hb
    replace m0 := below_cell hbk m0
    replace m1 := below_cell hbk m1
    replace m2 := below_cell hbk m2
    replace hlt_m0 : w.heap.size < w3.heap.size := World.block_lt_of_cell? w3 _ m0
    replace HM := Lib.hid (HM.out.below hbk)
    replace hB := bthen hB hbk
    obtain ⟨Ba, Bc, rfl, B⟩ := own_rdI hown
    replace B := Lib.hid B
    clear hown
    clear hbk hb
    go_wp2_with fail
    refine (k_Needed m _ a b width _ (by exact HM.out.below (Below.refl _ _))).mono ?_
    rintro e w4 ⟨v, rfl, hown, hb⟩
    rw [HNE.out] at hown ⊢
    have hbk : Below w3.heap.size w3 w4 := bthen (Below.refl _ _) hb
    replace m0 := below_cell hbk m0
    replace m1 := below_cell hbk m1
    replace m2 := below_cell hbk m2
    replace hlt_m0 : w.heap.size < w4.heap.size := World.block_lt_of_cell? w4 _ m0
    replace HM := Lib.hid (HM.out.below hbk)
    replace B := Lib.hid (B.out.below hbk)
    replace hB := bthen hB hbk
    obtain ⟨Da, Dc, rfl, D⟩ := own_rdI hown
    replace D := Lib.hid D
    clear hown
    clear hbk hb
    go_wp2_with fail
    refine (k_Price m _ a b width x _ (by exact HM.out.below (Below.refl _ _))).mono ?_
    rintro e w5 ⟨rfl, hb⟩
    rw [HPR.out]
    have hbk : Below w4.heap.size w4 w5 := bthen (Below.refl _ _) hb
    replace m0 := below_cell hbk m0
    replace m1 := below_cell hbk m1
    replace m2 := below_cell hbk m2
    replace hlt_m0 : w.heap.size < w5.heap.size := World.block_lt_of_cell? w5 _ m0
    replace HM := Lib.hid (HM.out.below hbk)
    replace B := Lib.hid (B.out.below hbk)
    replace D := Lib.hid (D.out.below hbk)
    replace hB := bthen hB hbk
    clear hbk hb
    go_wp2_with fail
    refine (c_ContainsB bl x _ _ _ true _ rfl HCI.out (by exact B.out.below (Below.refl _ _)) LB').mono ?_
    rintro e w6 ⟨rfl, hb⟩
    have hbk : Below w5.heap.size w5 w6 := bthen (Below.refl _ _) hb
    replace m0 := below_cell hbk m0
    replace m1 := below_cell hbk m1
    replace m2 := below_cell hbk m2
    replace hlt_m0 : w.heap.size < w6.heap.size := World.block_lt_of_cell? w6 _ m0
    replace HM := Lib.hid (HM.out.below hbk)
    replace B := Lib.hid (B.out.below hbk)
    replace D := Lib.hid (D.out.below hbk)
    replace hB := bthen hB hbk
    clear hbk hb
    go_wp2_with fail
    refine (c_ContainsB nl x _ _ _ false _ rfl HCN.out (by exact D.out.below (Below.refl _ _)) LN).mono ?_
    rintro e w7 ⟨rfl, hb⟩
    have hbk : Below w6.heap.size w6 w7 := bthen (Below.refl _ _) hb
    replace m0 := below_cell hbk m0
    replace m1 := below_cell hbk m1
    replace m2 := below_cell hbk m2
    replace hlt_m0 : w.heap.size < w7.heap.size := World.block_lt_of_cell? w7 _ m0
    replace HM := Lib.hid (HM.out.below hbk)
    replace B := Lib.hid (B.out.below hbk)
    replace D := Lib.hid (D.out.below hbk)
    replace hB := bthen hB hbk
    clear hbk hb
    clear D
    go_wp2_with fail
    refine (k_Cost m _ bl _ _ _ (by exact HM.out.below (Below.refl _ _)) (by exact B.out.below (Below.refl _ _)) LB').mono ?_
    rintro e w8 ⟨rfl, hb⟩
    rw [HCO.out]
    have hbk : Below w7.heap.size w7 w8 := bthen (Below.refl _ _) hb
    replace m0 := below_cell hbk m0
    replace m1 := below_cell hbk m1
    replace m2 := below_cell hbk m2
    replace hlt_m0 : w.heap.size < w8.heap.size := World.block_lt_of_cell? w8 _ m0
    replace HM := Lib.hid (HM.out.below hbk)
    replace B := Lib.hid (B.out.below hbk)
    replace hB := bthen hB hbk
    clear hbk hb
    go_wp2_with fail
    refine (k_Least m _ a b c _ (by exact HM.out.below (Below.refl _ _))).mono ?_
    rintro e w9 ⟨rfl, hb⟩
    rw [HL1.out]
    have hbk : Below w8.heap.size w8 w9 := bthen (Below.refl _ _) hb
    replace m0 := below_cell hbk m0
    replace m1 := below_cell hbk m1
    replace m2 := below_cell hbk m2
    replace hlt_m0 : w.heap.size < w9.heap.size := World.block_lt_of_cell? w9 _ m0
    replace HM := Lib.hid (HM.out.below hbk)
    replace B := Lib.hid (B.out.below hbk)
    replace hB := bthen hB hbk
    clear hbk hb
    go_wp2_with fail
    refine (k_Least m _ a b (c - 1) _ (by exact HM.out.below (Below.refl _ _))).mono ?_
    rintro e w10 ⟨rfl, hb⟩
    rw [HL2.out]
    have hbk : Below w9.heap.size w9 w10 := bthen (Below.refl _ _) hb
    replace m0 := below_cell hbk m0
    replace m1 := below_cell hbk m1
    replace m2 := below_cell hbk m2
    replace hlt_m0 : w.heap.size < w10.heap.size := World.block_lt_of_cell? w10 _ m0
    replace HM := Lib.hid (HM.out.below hbk)
    replace B := Lib.hid (B.out.below hbk)
    replace hB := bthen hB hbk
    clear hbk hb
    go_wp2
    go_ret
    exact ⟨rfl, hB⟩
  | false =>
    clear q2
    go_enter Try.func10, Try.ntmps10
    go_wp2_with fail
    refine (l_sane _).mono ?_
    rintro e w1 ⟨rfl, hb⟩
    have hbk : Below w.heap.size w w1 := bthen (bal (Below.refl _ _) (.cells #[.int .i64 m.n, .slice ka m.ks.length kc, .slice oa m.os.length oc] 24)) hb
    have m0 := below_cell hb (show (w.alloc (.cells #[.int .i64 m.n, .slice ka m.ks.length kc, .slice oa m.os.length oc] 24)).cell? ⟨w.heap.size, 0, none⟩ = some (.int .i64 m.n) from by simp)
    have m1 := below_cell hb (show (w.alloc (.cells #[.int .i64 m.n, .slice ka m.ks.length kc, .slice oa m.os.length oc] 24)).cell? ⟨w.heap.size, 1, none⟩ = some (.slice ka m.ks.length kc) from by simp)
    have m2 := below_cell hb (show (w.alloc (.cells #[.int .i64 m.n, .slice ka m.ks.length kc, .slice oa m.os.length oc] 24)).cell? ⟨w.heap.size, 2, none⟩ = some (.slice oa m.os.length oc) from by simp)
    have hlt_m0 : w.heap.size < w1.heap.size := World.block_lt_of_cell? w1 _ m0
    replace HM := Lib.hid (HM.out.below hbk)
    have hB := hbk
    clear hbk hb
    go_wp2_with fail
    refine (l_asked m _ [] [a, b] none _ 0 _ 2 _ (by exact HM.out.below (bal (Below.refl _ _) (.cells #[.int .i64 a, .int .i64 b] 3))) Rd.nil (by simp) (by simpa using rdI_new w1 [a, b] 3 : RdI _ (some ⟨w1.heap.size, 0, none⟩) [a, b]) rfl (by decide)).mono ?_
    rintro e w2 ⟨rfl, hb⟩
    rw [HASK.out]
    have hbk : Below w1.heap.size w1 w2 := bthen (bal (Below.refl _ _) (.cells #[.int .i64 a, .int .i64 b] 3)) hb
    replace m0 := below_cell hbk m0
    replace m1 := below_cell hbk m1
    replace m2 := below_cell hbk m2
    replace hlt_m0 : w.heap.size < w2.heap.size := World.block_lt_of_cell? w2 _ m0
    replace HM := Lib.hid (HM.out.below hbk)
    replace hB := bthen hB hbk
    clear hbk hb
    go_wp2_with fail
    refine (k_Best m _ a b width _ (by exact HM.out.below (Below.refl _ _))).mono ?_
    rintro e w3 ⟨v, rfl, hown, hb⟩
    rw [HBE.out] at hown ⊢
    have hbk : Below w2.heap.size w2 w3 := bthen (Below.refl _ _) hb
    replace m0 := below_cell hbk m0
    replace m1 := below_cell hbk m1
    replace m2 := below_cell hbk m2
    replace hlt_m0 : w.heap.size < w3.heap.size := World.block_lt_of_cell? w3 _ m0
    replace HM := Lib.hid (HM.out.below hbk)
    replace hB := bthen hB hbk
    obtain ⟨Ba, Bc, rfl, B⟩ := own_rdI hown
    replace B := Lib.hid B
    clear hown
    clear hbk hb
    go_wp2_with fail
    refine (k_Needed m _ a b width _ (by exact HM.out.below (Below.refl _ _))).mono ?_
    rintro e w4 ⟨v, rfl, hown, hb⟩
    rw [HNE.out] at hown ⊢
    have hbk : Below w3.heap.size w3 w4 := bthen (Below.refl _ _) hb
    replace m0 := below_cell hbk m0
    replace m1 := below_cell hbk m1
    replace m2 := below_cell hbk m2
    replace hlt_m0 : w.heap.size < w4.heap.size := World.block_lt_of_cell? w4 _ m0
    replace HM := Lib.hid (HM.out.below hbk)
    replace B := Lib.hid (B.out.below hbk)
    replace hB := bthen hB hbk
    obtain ⟨Da, Dc, rfl, D⟩ := own_rdI hown
    replace D := Lib.hid D
    clear hown
    clear hbk hb
    go_wp2_with fail
    refine (k_Price m _ a b width x _ (by exact HM.out.below (Below.refl _ _))).mono ?_
    rintro e w5 ⟨rfl, hb⟩
    rw [HPR.out]
    have hbk : Below w4.heap.size w4 w5 := bthen (Below.refl _ _) hb
    replace m0 := below_cell hbk m0
    replace m1 := below_cell hbk m1
    replace m2 := below_cell hbk m2
    replace hlt_m0 : w.heap.size < w5.heap.size := World.block_lt_of_cell? w5 _ m0
    replace HM := Lib.hid (HM.out.below hbk)
    replace B := Lib.hid (B.out.below hbk)
    replace D := Lib.hid (D.out.below hbk)
    replace hB := bthen hB hbk
    clear hbk hb
    go_wp2_with fail
    refine (c_ContainsB bl x _ _ _ true _ rfl HCI.out (by exact B.out.below (Below.refl _ _)) LB').mono ?_
    rintro e w6 ⟨rfl, hb⟩
    have hbk : Below w5.heap.size w5 w6 := bthen (Below.refl _ _) hb
    replace m0 := below_cell hbk m0
    replace m1 := below_cell hbk m1
    replace m2 := below_cell hbk m2
    replace hlt_m0 : w.heap.size < w6.heap.size := World.block_lt_of_cell? w6 _ m0
    replace HM := Lib.hid (HM.out.below hbk)
    replace B := Lib.hid (B.out.below hbk)
    replace D := Lib.hid (D.out.below hbk)
    replace hB := bthen hB hbk
    clear hbk hb
    go_wp2_with fail
    refine (c_ContainsB nl x _ _ _ false _ rfl HCN.out (by exact D.out.below (Below.refl _ _)) LN).mono ?_
    rintro e w7 ⟨rfl, hb⟩
    have hbk : Below w6.heap.size w6 w7 := bthen (Below.refl _ _) hb
    replace m0 := below_cell hbk m0
    replace m1 := below_cell hbk m1
    replace m2 := below_cell hbk m2
    replace hlt_m0 : w.heap.size < w7.heap.size := World.block_lt_of_cell? w7 _ m0
    replace HM := Lib.hid (HM.out.below hbk)
    replace B := Lib.hid (B.out.below hbk)
    replace D := Lib.hid (D.out.below hbk)
    replace hB := bthen hB hbk
    clear hbk hb
    clear D
    go_wp2_with fail
    refine (k_Cost m _ bl _ _ _ (by exact HM.out.below (Below.refl _ _)) (by exact B.out.below (Below.refl _ _)) LB').mono ?_
    rintro e w8 ⟨rfl, hb⟩
    rw [HCO.out]
    have hbk : Below w7.heap.size w7 w8 := bthen (Below.refl _ _) hb
    replace m0 := below_cell hbk m0
    replace m1 := below_cell hbk m1
    replace m2 := below_cell hbk m2
    replace hlt_m0 : w.heap.size < w8.heap.size := World.block_lt_of_cell? w8 _ m0
    replace HM := Lib.hid (HM.out.below hbk)
    replace B := Lib.hid (B.out.below hbk)
    replace hB := bthen hB hbk
    clear hbk hb
    go_wp2_with fail
    refine (k_Least m _ a b c _ (by exact HM.out.below (Below.refl _ _))).mono ?_
    rintro e w9 ⟨rfl, hb⟩
    rw [HL1.out]
    have hbk : Below w8.heap.size w8 w9 := bthen (Below.refl _ _) hb
    replace m0 := below_cell hbk m0
    replace m1 := below_cell hbk m1
    replace m2 := below_cell hbk m2
    replace hlt_m0 : w.heap.size < w9.heap.size := World.block_lt_of_cell? w9 _ m0
    replace HM := Lib.hid (HM.out.below hbk)
    replace B := Lib.hid (B.out.below hbk)
    replace hB := bthen hB hbk
    clear hbk hb
    go_wp2_with fail
    refine (k_Least m _ a b (c - 1) _ (by exact HM.out.below (Below.refl _ _))).mono ?_
    rintro e w10 ⟨rfl, hb⟩
    rw [HL2.out]
    have hbk : Below w9.heap.size w9 w10 := bthen (Below.refl _ _) hb
    replace m0 := below_cell hbk m0
    replace m1 := below_cell hbk m1
    replace m2 := below_cell hbk m2
    replace hlt_m0 : w.heap.size < w10.heap.size := World.block_lt_of_cell? w10 _ m0
    replace HM := Lib.hid (HM.out.below hbk)
    replace B := Lib.hid (B.out.below hbk)
    replace hB := bthen hB hbk
    clear hbk hb
    go_wp2
    go_ret
    exact ⟨rfl, hB⟩
end Go.Proofs.Ytjdldmecjhddnaa
