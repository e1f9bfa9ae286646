/- KeeperNamed: what it computes is true, case A. -/
import Derived.Test.YtjdldmecjhddnaaK18
import Derived.Test.YtjdldmecjhddnaaKRen
import Derived.Test.YtjdldmecjhddnaaKClo
namespace Go.Proofs.Ytjdldmecjhddnaa
open Go.RowKit
set_option linter.unusedVariables false
set_option linter.unusedSimpArgs false

theorem k_FrontsN (m : Mk) (mv : Value) (a : Int) (rows : List (List (Int × Int))) (n : Nat) (w : World) (hm : MkRd w m mv) (hr : frontsLF m a = (rows, 0)) (hn : rows.length = n) :
    Calls Try.prog 31 #[mv, .int .i64 a] w fun e w' => ∃ va vc, e = .returned (.tuple #[.slice va n vc, .int .i64 0]) ∧ RdLL w' va rows ∧ Below w.heap.size w w' := by
  refine (k_Fronts m mv a w hm).mono ?_
  rintro e w' ⟨va, vc, he, hl, hb⟩
  rw [hr] at he hl
  subst hn
  exact ⟨va, vc, he, hl, hb⟩
set_option maxHeartbeats 8000000 in
set_option maxRecDepth 100000 in
theorem named_A0 (m : Mk) (mv : Value) (l : List Int) (la : Option Addr) (lc : Nat) (x y : Nat) (width : Int) (w : World) (hm : MkRd w m mv) (hl : RdI w la l) (hll : l.length ≤ 140737488355328) (hask : askedB m l [(x : Int), y, x] = true) (h0' : 0 ≤ width) (h1' : width ≤ 16777216) (hk24 : m.ks.length ≤ 24) (ho12 : m.os.length ≤ 12) (N : Nat) (hN2 : 2 ≤ N) (hN8 : N ≤ 8) (hxN : x < N) (hyN : y < N) (hxy : x ≠ y) (tN : ((N : Int) != m.n) = false) (p : Int) (is : Bool) (bl : List Int) (isb : Bool) (tl : List Int) (ist : Bool) (s : Int) (one : Bool) (e0 : Int) (R R' : Nat → List (Int × Int)) (e1 : widthF m l x x = (p, is, 0)) (e2 : widthF (swM x y m) l y y = (p, is, 0)) (e3 : bestF m x x width = (bl, isb, 0)) (e4 : bestF (swM x y m) y y width = (bl, isb, 0)) (LB' : bl.length ≤ 140737488355328) (e5 : togF m width = (tl, ist, 0)) (e6 : togF (swM x y m) width = (tl, ist, 0)) (LT' : tl.length ≤ 140737488355328) (hp : 0 < m.os.length → priceF m x x width 0 = (s, one, e0) ∧ priceF (swM x y m) y y width 0 = (s, one, e0)) (f1 : frontsLF m x = ((List.range N).map R, 0)) (f2 : frontsLF (swM x y m) y = ((List.range N).map R', 0)) (hex : decide ((List.range N).map R = (List.range N).map (exch R' x y)) = true) (r4 : ∀ b, (R b).length ≤ 4096) (r5 : ∀ b, (exch R' x y b).length ≤ 140737488355328) (ho : ¬ 0 < m.os.length) :
    Calls Try.prog 5 #[mv, .slice la l.length lc, .int .i64 x, .int .i64 y, .int .i64 x, .int .i64 width] w fun e w' => e = .returned (.bool true) ∧ Below w.heap.size w w' := by
  have HM := Lib.hid hm
  obtain ⟨ka, kc, oa, oc, rfl, _⟩ := hm
  have HASK := Lib.hid hask
  have HW1 := Lib.hid e1
  have HW2 := Lib.hid e2
  have HB1 := Lib.hid e3
  have HB2 := Lib.hid e4
  have HT1 := Lib.hid e5
  have HT2 := Lib.hid e6
  have HP := Lib.hid hp
  have HF1 := Lib.hid f1
  have HF2 := Lib.hid f2
  have HEX := Lib.hid hex
  have HR4 := Lib.hid r4
  have HR5 := Lib.hid r5
  have x0 : (0 : Int) ≤ (x : Int) := Int.natCast_nonneg _
  have y0 : (0 : Int) ≤ (y : Int) := Int.natCast_nonneg _
  have xN : (x : Int) < (N : Int) := by omega
  have yN : (y : Int) < (N : Int) := by omega
  have t1 : ((x : Int) == (y : Int)) = false := by simp; omega
  have HL := Lib.hid hl
  clear hask e1 e2 e3 e4 e5 e6 hp f1 f2 hex r4 r5 hl
  have t3 : ((x : Int) == (x : Int)) = true := by simp
  go_enter Try.func5, Try.ntmps5
  go_wp2_with fail
  refine (l_sane _).mono ?_
  rintro e w1 ⟨rfl, hb⟩
  have hbk : Below w.heap.size w w1 := bthen (bal (Below.refl _ _) (.cells #[.int .i64 m.n, .slice ka m.ks.length kc, .slice oa m.os.length oc] 24)) hb
  have m0 := below_cell hb (show (w.alloc (.cells #[.int .i64 m.n, .slice ka m.ks.length kc, .slice oa m.os.length oc] 24)).cell? ⟨w.heap.size, 0, none⟩ = some (.int .i64 m.n) from by simp)
  have m1 := below_cell hb (show (w.alloc (.cells #[.int .i64 m.n, .slice ka m.ks.length kc, .slice oa m.os.length oc] 24)).cell? ⟨w.heap.size, 1, none⟩ = some (.slice ka m.ks.length kc) from by simp)
  have m2 := below_cell hb (show (w.alloc (.cells #[.int .i64 m.n, .slice ka m.ks.length kc, .slice oa m.os.length oc] 24)).cell? ⟨w.heap.size, 2, none⟩ = some (.slice oa m.os.length oc) from by simp)
  have hlt_m0 : w.heap.size < w1.heap.size := World.block_lt_of_cell? w1 _ m0
  replace HM := Lib.hid (HM.out.below hbk)
  replace HL := Lib.hid (HL.out.below hbk)
  have hB := hbk
  clear hbk hb
  go_wp2_with fail
  refine (l_asked m _ l [x, y, x] la _ lc _ 3 _ (by exact HM.out.below (bal (Below.refl _ _) (.cells #[.int .i64 x, .int .i64 y, .int .i64 x] 3))) (by exact HL.out.below (bal (Below.refl _ _) (.cells #[.int .i64 x, .int .i64 y, .int .i64 x] 3))) hll (by simpa using rdI_new w1 [x, y, x] 3 : RdI _ (some ⟨w1.heap.size, 0, none⟩) [x, y, x]) rfl (by decide)).mono ?_
  rintro e w2 ⟨rfl, hb⟩
  rw [HASK.out]
  have hbk : Below w1.heap.size w1 w2 := bthen (bal (Below.refl _ _) (.cells #[.int .i64 x, .int .i64 y, .int .i64 x] 3)) hb
  replace m0 := below_cell hbk m0
  replace m1 := below_cell hbk m1
  replace m2 := below_cell hbk m2
  replace hlt_m0 : w.heap.size < w2.heap.size := World.block_lt_of_cell? w2 _ m0
  replace HM := Lib.hid (HM.out.below hbk)
  replace HL := Lib.hid (HL.out.below hbk)
  replace hB := bthen hB hbk
  clear hbk hb
  go_wp2_with fail
  refine (l_renamed m _ x y _ (by exact HM.out.below (Below.refl _ _)) hk24 ho12).mono ?_
  rintro e w3 ⟨mv', rfl, hmk, hb⟩
  have hbk : Below w2.heap.size w2 w3 := bthen (Below.refl _ _) hb
  replace m0 := below_cell hbk m0
  replace m1 := below_cell hbk m1
  replace m2 := below_cell hbk m2
  replace hlt_m0 : w.heap.size < w3.heap.size := World.block_lt_of_cell? w3 _ m0
  replace HM := Lib.hid (HM.out.below hbk)
  replace HL := Lib.hid (HL.out.below hbk)
  replace hB := bthen hB hbk
  have HN2 := Lib.hid hmk
  obtain ⟨n1, n1c, n2, n2c, rfl, _⟩ := hmk
  clear hbk hb
  go_wp2_with fail
  refine (k_Width m _ l la lc x x _ (by exact HM.out.below (bal (Below.refl _ _) (.cells #[.int .i64 (swM x y m).n, .slice n1 (swM x y m).ks.length n1c, .slice n2 (swM x y m).os.length n2c] 24))) (by exact HL.out.below (bal (Below.refl _ _) (.cells #[.int .i64 (swM x y m).n, .slice n1 (swM x y m).ks.length n1c, .slice n2 (swM x y m).os.length n2c] 24))) hll).mono ?_
  rintro e w4 ⟨rfl, hb⟩
  rw [HW1.out]
  have hbk : Below w3.heap.size w3 w4 := bthen (bal (Below.refl _ _) (.cells #[.int .i64 (swM x y m).n, .slice n1 (swM x y m).ks.length n1c, .slice n2 (swM x y m).os.length n2c] 24)) hb
  have q0 := below_cell hb (show (w3.alloc (.cells #[.int .i64 (swM x y m).n, .slice n1 (swM x y m).ks.length n1c, .slice n2 (swM x y m).os.length n2c] 24)).cell? ⟨w3.heap.size, 0, none⟩ = some (.int .i64 (swM x y m).n) from by simp)
  have q1 := below_cell hb (show (w3.alloc (.cells #[.int .i64 (swM x y m).n, .slice n1 (swM x y m).ks.length n1c, .slice n2 (swM x y m).os.length n2c] 24)).cell? ⟨w3.heap.size, 1, none⟩ = some (.slice n1 (swM x y m).ks.length n1c) from by simp)
  have q2 := below_cell hb (show (w3.alloc (.cells #[.int .i64 (swM x y m).n, .slice n1 (swM x y m).ks.length n1c, .slice n2 (swM x y m).os.length n2c] 24)).cell? ⟨w3.heap.size, 2, none⟩ = some (.slice n2 (swM x y m).os.length n2c) from by simp)
  replace m0 := below_cell hbk m0
  replace m1 := below_cell hbk m1
  replace m2 := below_cell hbk m2
  have hlt_q0 : w3.heap.size < w4.heap.size := World.block_lt_of_cell? w4 _ q0
  replace hlt_m0 : w.heap.size < w4.heap.size := World.block_lt_of_cell? w4 _ m0
  replace HM := Lib.hid (HM.out.below hbk)
  replace HL := Lib.hid (HL.out.below hbk)
  replace HN2 := Lib.hid (HN2.out.below hbk)
  replace hB := bthen hB hbk
  clear hbk hb
  go_wp2_with fail
  refine (k_Width (swM x y m) _ l la lc y y _ (by exact HN2.out.below (Below.refl _ _)) (by exact HL.out.below (Below.refl _ _)) hll).mono ?_
  rintro e w5 ⟨rfl, hb⟩
  rw [HW2.out]
  have hbk : Below w4.heap.size w4 w5 := bthen (Below.refl _ _) hb
  replace m0 := below_cell hbk m0
  replace m1 := below_cell hbk m1
  replace m2 := below_cell hbk m2
  replace q0 := below_cell hbk q0
  replace q1 := below_cell hbk q1
  replace q2 := below_cell hbk q2
  replace hlt_m0 : w.heap.size < w5.heap.size := World.block_lt_of_cell? w5 _ m0
  replace hlt_q0 : w3.heap.size < w5.heap.size := World.block_lt_of_cell? w5 _ q0
  replace HM := Lib.hid (HM.out.below hbk)
  replace HL := Lib.hid (HL.out.below hbk)
  replace HN2 := Lib.hid (HN2.out.below hbk)
  replace hB := bthen hB hbk
  clear hbk hb
  go_wp2_with fail
  refine (k_Best m _ x x width _ (by exact HM.out.below (Below.refl _ _))).mono ?_
  rintro e w6 ⟨v, rfl, hown, hb⟩
  rw [HB1.out] at hown ⊢
  have hbk : Below w5.heap.size w5 w6 := bthen (Below.refl _ _) hb
  replace m0 := below_cell hbk m0
  replace m1 := below_cell hbk m1
  replace m2 := below_cell hbk m2
  replace q0 := below_cell hbk q0
  replace q1 := below_cell hbk q1
  replace q2 := below_cell hbk q2
  replace hlt_m0 : w.heap.size < w6.heap.size := World.block_lt_of_cell? w6 _ m0
  replace hlt_q0 : w3.heap.size < w6.heap.size := World.block_lt_of_cell? w6 _ q0
  replace HM := Lib.hid (HM.out.below hbk)
  replace HL := Lib.hid (HL.out.below hbk)
  replace HN2 := Lib.hid (HN2.out.below hbk)
  replace hB := bthen hB hbk
  obtain ⟨Xa, Xc, rfl, X⟩ := own_rdI hown
  replace X := Lib.hid X
  clear hown
  clear hbk hb
  go_wp2_with fail
  refine (k_Best (swM x y m) _ y y width _ (by exact HN2.out.below (Below.refl _ _))).mono ?_
  rintro e w7 ⟨v, rfl, hown, hb⟩
  rw [HB2.out] at hown ⊢
  have hbk : Below w6.heap.size w6 w7 := bthen (Below.refl _ _) hb
  replace m0 := below_cell hbk m0
  replace m1 := below_cell hbk m1
  replace m2 := below_cell hbk m2
  replace q0 := below_cell hbk q0
  replace q1 := below_cell hbk q1
  replace q2 := below_cell hbk q2
  replace hlt_m0 : w.heap.size < w7.heap.size := World.block_lt_of_cell? w7 _ m0
  replace hlt_q0 : w3.heap.size < w7.heap.size := World.block_lt_of_cell? w7 _ q0
  replace HM := Lib.hid (HM.out.below hbk)
  replace HL := Lib.hid (HL.out.below hbk)
  replace HN2 := Lib.hid (HN2.out.below hbk)
  replace X := Lib.hid (X.out.below hbk)
  replace hB := bthen hB hbk
  obtain ⟨Ya, Yc, rfl, Y⟩ := own_rdI hown
  replace Y := Lib.hid Y
  clear hown
  clear hbk hb
  go_wp2_with fail
  refine (c_Equal bl bl _ _ _ _ _ _ true _ rfl rfl (by simp) (by exact X.out.below (Below.refl _ _)) (by exact Y.out.below (Below.refl _ _)) LB' LB').mono ?_
  rintro e w8 ⟨rfl, hb⟩
  have hbk : Below w7.heap.size w7 w8 := bthen (Below.refl _ _) hb
  replace m0 := below_cell hbk m0
  replace m1 := below_cell hbk m1
  replace m2 := below_cell hbk m2
  replace q0 := below_cell hbk q0
  replace q1 := below_cell hbk q1
  replace q2 := below_cell hbk q2
  replace hlt_m0 : w.heap.size < w8.heap.size := World.block_lt_of_cell? w8 _ m0
  replace hlt_q0 : w3.heap.size < w8.heap.size := World.block_lt_of_cell? w8 _ q0
  replace HM := Lib.hid (HM.out.below hbk)
  replace HL := Lib.hid (HL.out.below hbk)
  replace HN2 := Lib.hid (HN2.out.below hbk)
  replace X := Lib.hid (X.out.below hbk)
  replace Y := Lib.hid (Y.out.below hbk)
  replace hB := bthen hB hbk
  clear hbk hb
  clear X Y
  go_wp2_with fail
  refine (k_Together m _ width _ (by exact HM.out.below (Below.refl _ _))).mono ?_
  rintro e w9 ⟨v, rfl, hown, hb⟩
  rw [HT1.out] at hown ⊢
  have hbk : Below w8.heap.size w8 w9 := bthen (Below.refl _ _) hb
  replace m0 := below_cell hbk m0
  replace m1 := below_cell hbk m1
  replace m2 := below_cell hbk m2
  replace q0 := below_cell hbk q0
  replace q1 := below_cell hbk q1
  replace q2 := below_cell hbk q2
  replace hlt_m0 : w.heap.size < w9.heap.size := World.block_lt_of_cell? w9 _ m0
  replace hlt_q0 : w3.heap.size < w9.heap.size := World.block_lt_of_cell? w9 _ q0
  replace HM := Lib.hid (HM.out.below hbk)
  replace HL := Lib.hid (HL.out.below hbk)
  replace HN2 := Lib.hid (HN2.out.below hbk)
  replace hB := bthen hB hbk
  obtain ⟨Xa, Xc, rfl, X⟩ := own_rdI hown
  replace X := Lib.hid X
  clear hown
  clear hbk hb
  go_wp2_with fail
  refine (k_Together (swM x y m) _ width _ (by exact HN2.out.below (Below.refl _ _))).mono ?_
  rintro e w10 ⟨v, rfl, hown, hb⟩
  rw [HT2.out] at hown ⊢
  have hbk : Below w9.heap.size w9 w10 := bthen (Below.refl _ _) hb
  replace m0 := below_cell hbk m0
  replace m1 := below_cell hbk m1
  replace m2 := below_cell hbk m2
  replace q0 := below_cell hbk q0
  replace q1 := below_cell hbk q1
  replace q2 := below_cell hbk q2
  replace hlt_m0 : w.heap.size < w10.heap.size := World.block_lt_of_cell? w10 _ m0
  replace hlt_q0 : w3.heap.size < w10.heap.size := World.block_lt_of_cell? w10 _ q0
  replace HM := Lib.hid (HM.out.below hbk)
  replace HL := Lib.hid (HL.out.below hbk)
  replace HN2 := Lib.hid (HN2.out.below hbk)
  replace X := Lib.hid (X.out.below hbk)
  replace hB := bthen hB hbk
  obtain ⟨Ya, Yc, rfl, Y⟩ := own_rdI hown
  replace Y := Lib.hid Y
  clear hown
  clear hbk hb
  go_wp2_with fail
  refine (c_Equal tl tl _ _ _ _ _ _ true _ rfl rfl (by simp) (by exact X.out.below (Below.refl _ _)) (by exact Y.out.below (Below.refl _ _)) LT' LT').mono ?_
  rintro e w11 ⟨rfl, hb⟩
  have hbk : Below w10.heap.size w10 w11 := bthen (Below.refl _ _) hb
  replace m0 := below_cell hbk m0
  replace m1 := below_cell hbk m1
  replace m2 := below_cell hbk m2
  replace q0 := below_cell hbk q0
  replace q1 := below_cell hbk q1
  replace q2 := below_cell hbk q2
  replace hlt_m0 : w.heap.size < w11.heap.size := World.block_lt_of_cell? w11 _ m0
  replace hlt_q0 : w3.heap.size < w11.heap.size := World.block_lt_of_cell? w11 _ q0
  replace HM := Lib.hid (HM.out.below hbk)
  replace HL := Lib.hid (HL.out.below hbk)
  replace HN2 := Lib.hid (HN2.out.below hbk)
  replace X := Lib.hid (X.out.below hbk)
  replace Y := Lib.hid (Y.out.below hbk)
  replace hB := bthen hB hbk
  clear hbk hb
  clear X Y
  go_wp2_with fail
  refine (k_FrontsN m _ x ((List.range N).map R) N _ (by exact HM.out.below (Below.refl _ _)) HF1.out (by simp)).mono ?_
  rintro e w12 ⟨pa, pc, rfl, hrd, hb⟩
  have hbk : Below w11.heap.size w11 w12 := bthen (Below.refl _ _) hb
  replace m0 := below_cell hbk m0
  replace m1 := below_cell hbk m1
  replace m2 := below_cell hbk m2
  replace q0 := below_cell hbk q0
  replace q1 := below_cell hbk q1
  replace q2 := below_cell hbk q2
  replace hlt_m0 : w.heap.size < w12.heap.size := World.block_lt_of_cell? w12 _ m0
  replace hlt_q0 : w3.heap.size < w12.heap.size := World.block_lt_of_cell? w12 _ q0
  replace HM := Lib.hid (HM.out.below hbk)
  replace HL := Lib.hid (HL.out.below hbk)
  replace HN2 := Lib.hid (HN2.out.below hbk)
  replace hB := bthen hB hbk
  have P := Lib.hid hrd
  clear hrd
  clear hbk hb
  go_wp2_with fail
  refine (k_FrontsN (swM x y m) _ y ((List.range N).map R') N _ (by exact HN2.out.below (Below.refl _ _)) HF2.out (by simp)).mono ?_
  rintro e w13 ⟨qa, qc, rfl, hrd, hb⟩
  have hbk : Below w12.heap.size w12 w13 := bthen (Below.refl _ _) hb
  replace m0 := below_cell hbk m0
  replace m1 := below_cell hbk m1
  replace m2 := below_cell hbk m2
  replace q0 := below_cell hbk q0
  replace q1 := below_cell hbk q1
  replace q2 := below_cell hbk q2
  replace hlt_m0 : w.heap.size < w13.heap.size := World.block_lt_of_cell? w13 _ m0
  replace hlt_q0 : w3.heap.size < w13.heap.size := World.block_lt_of_cell? w13 _ q0
  replace HM := Lib.hid (HM.out.below hbk)
  replace HL := Lib.hid (HL.out.below hbk)
  replace HN2 := Lib.hid (HN2.out.below hbk)
  replace P := Lib.hid (P.out.below hbk)
  replace hB := bthen hB hbk
  have Q := Lib.hid hrd
  clear hrd
  clear hbk hb
  have hsw := hB.size
  go_wp2_with fail
  refine (c_CloneLL R' N qa qc _ hN2 hN8 (by exact Q.out)).mono ?_
  rintro e w14 ⟨ra, rc, G, cap, rfl, hra, hcl, hG, hb⟩
  have hbk : Below w13.heap.size w13 w14 := bthen (Below.refl _ _) hb
  replace m0 := below_cell hbk m0
  replace m1 := below_cell hbk m1
  replace m2 := below_cell hbk m2
  replace q0 := below_cell hbk q0
  replace q1 := below_cell hbk q1
  replace q2 := below_cell hbk q2
  replace hlt_m0 : w.heap.size < w14.heap.size := World.block_lt_of_cell? w14 _ m0
  replace hlt_q0 : w3.heap.size < w14.heap.size := World.block_lt_of_cell? w14 _ q0
  replace HM := Lib.hid (HM.out.below hbk)
  replace HL := Lib.hid (HL.out.below hbk)
  replace HN2 := Lib.hid (HN2.out.below hbk)
  replace hB := bthen hB hbk
  have HRA := Lib.hid hra
  have HCL := Lib.hid (fun b hb => (hcl b hb).1)
  have HKP := Lib.hid ((KpC.refl G G _).below hbk)
  have HBC := Lib.hid hbk
  have cx := (hcl x hxN).1
  have cy := (hcl y hyN).1
  have zx := (hcl x hxN).2
  have zy := (hcl y hyN).2
  clear hra hcl
  clear hbk hb
  have hs1 := Lib.hid (show (fun w' : World => w'.cell? ⟨G, x, none⟩ = some (.slice (ra x) (R' x).length (rc x)) ∧ w'.cell? ⟨G, y, none⟩ = some (.slice (ra y) (R' y).length (rc y))) w14.drew from ⟨cdw cx, cdw cy⟩)
  have zx' : w14.drew.frozen? ⟨G, x, none⟩ = false := by simpa using zx
  have zy' : w14.drew.frozen? ⟨G, y, none⟩ = false := by simpa using zy
  have cy2 : (w14.drew.setCell ⟨G, x, none⟩ (.slice (ra y) (R' y).length (rc y))).cell? ⟨G, y, none⟩ = some (.slice (ra y) (R' y).length (rc y)) := by
    rw [World.cell?_setCell_other _ _ _ _ (by intro e; injection e with _ e2; omega)]; exact cdw cy
  have HXR := Lib.hid (show RdLL ((w14.drew.setCell ⟨G, x, none⟩ (.slice (ra y) (R' y).length (rc y))).setCell ⟨G, y, none⟩ (.slice (ra x) (R' x).length (rc x))) (some ⟨G, 0, none⟩) ((List.range N).map (exch R' x y)) from exch_rd hxN hyN hxy HRA.out (HKP.out.below (Below.refl _ _).drew) hG (fun b hb => cdw (HCL.out b hb)))
  have HPF := Lib.hid (show Below w13.heap.size w13 ((w14.drew.setCell ⟨G, x, none⟩ (.slice (ra y) (R' y).length (rc y))).setCell ⟨G, y, none⟩ (.slice (ra x) (R' x).length (rc x))) from (HBC.out.drew.setCell (p := ⟨G, x, none⟩) hG _).setCell (p := ⟨G, y, none⟩) hG _)
  have HBF := Lib.hid (show Below w.heap.size w ((w14.drew.setCell ⟨G, x, none⟩ (.slice (ra y) (R' y).length (rc y))).setCell ⟨G, y, none⟩ (.slice (ra x) (R' x).length (rc x))) from (hB.drew.setCell (p := ⟨G, x, none⟩) (by show w.heap.size ≤ G; omega) _).setCell (p := ⟨G, y, none⟩) (by show w.heap.size ≤ G; omega) _)
  clear HBC HKP hB HRA HCL
  go_wp2_with fail

  refine till_region (T := Till2 [13] (fun w' : World => w'.cell? ⟨G, x, none⟩ = some (.slice (ra x) (R' x).length (rc x)) ∧ w'.cell? ⟨G, y, none⟩ = some (.slice (ra y) (R' y).length (rc y))) [15] (fun _ : World => True)) (by kernel_rfl) ⟨till_hold hs1.out, till_hold trivial⟩ (fun _ => ?_)
  refine till_take1 (i := 0) (v := ?v0) rfl (by kernel_rfl) (by kernel_rfl) (by kernel_rfl) (by kernel_rfl) (by kernel_rfl) (by kernel_rfl) (by kernel_rfl) (fun _ _ _ h => h) (Or.inl ⟨by rfl, ?y0⟩) ⟨till_hold hs1.out, till_hold trivial⟩ (fun _ => ?r0)
  case y0 => (intro wS hSw; (try dsimp only at hSw); go_split_ands; go_simp <;> with_reducible rfl)
  (try simp only [Act.put, List.setIfInBounds_toArray, List.set_cons_zero, List.set_cons_succ])
  refine till_take1 (i := 1) (v := ?v1) rfl (by kernel_rfl) (by kernel_rfl) (by kernel_rfl) (by kernel_rfl) (by kernel_rfl) (by kernel_rfl) (by kernel_rfl) (fun _ _ _ h => h) (Or.inl ⟨by rfl, ?y1⟩) ⟨till_hold hs1.out, till_hold trivial⟩ (fun _ => ?r1)
  case y1 => (intro wS hSw; (try dsimp only at hSw); go_split_ands; go_simp <;> with_reducible rfl)
  (try simp only [Act.put, List.setIfInBounds_toArray, List.set_cons_zero, List.set_cons_succ])
  refine till_take2 (i := 2) (v := ?v2) rfl (by kernel_rfl) (by kernel_rfl) (by kernel_rfl) (by kernel_rfl) (by kernel_rfl) (by kernel_rfl) (by kernel_rfl) (fun _ _ _ h => h) (Or.inl ⟨by rfl, ?y2⟩) ⟨till_hold hs1.out, till_hold trivial⟩ (fun _ => ?r2)
  case y2 => (intro wS hSw; (try dsimp only at hSw); go_split_ands; go_simp <;> with_reducible rfl)
  (try simp only [Act.put, List.setIfInBounds_toArray, List.set_cons_zero, List.set_cons_succ])
  refine till_take2 (i := 3) (v := ?v3) rfl (by kernel_rfl) (by kernel_rfl) (by kernel_rfl) (by kernel_rfl) (by kernel_rfl) (by kernel_rfl) (by kernel_rfl) (fun _ _ _ h => h) (Or.inl ⟨by rfl, ?y3⟩) ⟨till_hold hs1.out, till_hold trivial⟩ (fun _ => ?r3)
  case y3 => (intro wS hSw; (try dsimp only at hSw); go_split_ands; go_simp <;> with_reducible rfl)
  (try simp only [Act.put, List.setIfInBounds_toArray, List.set_cons_zero, List.set_cons_succ])
  refine till_take1 (i := 4) (v := ?v4) rfl (by kernel_rfl) (by kernel_rfl) (by kernel_rfl) (by kernel_rfl) (by kernel_rfl) (by kernel_rfl) (by kernel_rfl) (fun _ _ _ h => h) (Or.inl ⟨by rfl, ?y4⟩) ⟨till_hold hs1.out, till_hold trivial⟩ (fun _ => ?r4)
  case y4 => (intro wS hSw; (try dsimp only at hSw); go_split_ands; go_simp <;> with_reducible rfl)
  (try simp only [Act.put, List.setIfInBounds_toArray, List.set_cons_zero, List.set_cons_succ])
  refine till_take1 (i := 5) (v := ?v5) rfl (by kernel_rfl) (by kernel_rfl) (by kernel_rfl) (by kernel_rfl) (by kernel_rfl) (by kernel_rfl) (by kernel_rfl) (fun _ _ _ h => h) (Or.inl ⟨by rfl, ?y5⟩) ⟨till_hold hs1.out, till_hold trivial⟩ (fun _ => ?r5)
  case y5 => (intro wS hSw; (try dsimp only at hSw); go_split_ands; go_simp <;> with_reducible rfl)
  (try simp only [Act.put, List.setIfInBounds_toArray, List.set_cons_zero, List.set_cons_succ])
  refine till_take1 (i := 6) (v := ?v6) rfl (by kernel_rfl) (by kernel_rfl) (by kernel_rfl) (by kernel_rfl) (by kernel_rfl) (by kernel_rfl) (by kernel_rfl) (fun _ _ _ h => h) (Or.inl ⟨by rfl, ?y6⟩) ⟨till_hold hs1.out, till_hold trivial⟩ (fun _ => ?r6)
  case y6 => (intro wS hSw; (try dsimp only at hSw); go_split_ands; go_simp <;> with_reducible rfl)
  (try simp only [Act.put, List.setIfInBounds_toArray, List.set_cons_zero, List.set_cons_succ])
  refine till_take1 (i := 7) (v := ?v7) rfl (by kernel_rfl) (by kernel_rfl) (by kernel_rfl) (by kernel_rfl) (by kernel_rfl) (by kernel_rfl) (by kernel_rfl) (fun _ _ _ h => h) (Or.inl ⟨by rfl, ?y7⟩) ⟨till_hold hs1.out, till_hold trivial⟩ (fun _ => ?r7)
  case y7 => (intro wS hSw; (try dsimp only at hSw); go_split_ands; go_simp <;> with_reducible rfl)
  (try simp only [Act.put, List.setIfInBounds_toArray, List.set_cons_zero, List.set_cons_succ])
  refine till_take2 (i := 8) (v := ?v8) rfl (by kernel_rfl) (by kernel_rfl) (by kernel_rfl) (by kernel_rfl) (by kernel_rfl) (by kernel_rfl) (by kernel_rfl) (fun _ _ _ h => h) (Or.inl ⟨by rfl, ?y8⟩) ⟨till_hold hs1.out, till_hold trivial⟩ (fun _ => ?r8)
  case y8 => (intro wS hSw; (try dsimp only at hSw); go_split_ands; go_simp <;> with_reducible rfl)
  (try simp only [Act.put, List.setIfInBounds_toArray, List.set_cons_zero, List.set_cons_succ])
  refine till_take2 (i := 9) (v := ?v9) rfl (by kernel_rfl) (by kernel_rfl) (by kernel_rfl) (by kernel_rfl) (by kernel_rfl) (by kernel_rfl) (by kernel_rfl) (fun _ _ _ h => h) (Or.inl ⟨by rfl, ?y9⟩) ⟨till_hold hs1.out, till_hold trivial⟩ (fun _ => ?r9)
  case y9 => (intro wS hSw; (try dsimp only at hSw); go_split_ands; go_simp <;> with_reducible rfl)
  (try simp only [Act.put, List.setIfInBounds_toArray, List.set_cons_zero, List.set_cons_succ])
  refine till_take2 (i := 10) (v := ?v10) rfl (by kernel_rfl) (by kernel_rfl) (by kernel_rfl) (by kernel_rfl) (by kernel_rfl) (by kernel_rfl) (by kernel_rfl) (fun _ _ _ h => h) (Or.inl ⟨by rfl, ?y10⟩) ⟨till_hold hs1.out, till_hold trivial⟩ (fun _ => ?r10)
  case y10 => (intro wS hSw; (try dsimp only at hSw); go_split_ands; go_simp <;> with_reducible rfl)
  (try simp only [Act.put, List.setIfInBounds_toArray, List.set_cons_zero, List.set_cons_succ])
  refine till_take1 (i := 11) (v := ?v11) rfl (by kernel_rfl) (by kernel_rfl) (by kernel_rfl) (by kernel_rfl) (by kernel_rfl) (by kernel_rfl) (by kernel_rfl) (fun _ _ _ h => h) (Or.inl ⟨by rfl, ?y11⟩) ⟨till_hold hs1.out, till_hold trivial⟩ (fun _ => ?r11)
  case y11 => (intro wS hSw; (try dsimp only at hSw); go_split_ands; go_simp <;> with_reducible rfl)
  (try simp only [Act.put, List.setIfInBounds_toArray, List.set_cons_zero, List.set_cons_succ])
  refine till_ready (i := 12) (o := _) (by kernel_rfl) rfl (fun K hK => ?_)
  go_simp
  refine hK.out _ _ ⟨till_hold hs1.out, till_hold trivial⟩ ?_
  clear hK K
  (try simp only [Act.put, List.setIfInBounds_toArray, List.set_cons_zero, List.set_cons_succ])
  refine till_ready (i := 13) (o := _) (by kernel_rfl) rfl (fun K hK => ?_)
  go_simp
  refine hK.out _ _ ⟨till_gone (by kernel_rfl), till_hold trivial⟩ ?_
  clear hK K
  (try simp only [Act.put, List.setIfInBounds_toArray, List.set_cons_zero, List.set_cons_succ])
  refine till_ready (i := 14) (o := _) (by kernel_rfl) rfl (fun K hK => ?_)
  go_simp
  refine hK.out _ _ ⟨till_gone (by kernel_rfl), till_hold trivial⟩ ?_
  clear hK K
  (try simp only [Act.put, List.setIfInBounds_toArray, List.set_cons_zero, List.set_cons_succ])
  refine till_ready (i := 15) (o := _) (by kernel_rfl) rfl (fun K hK => ?_)
  go_simp
  refine hK.out _ _ ⟨till_gone (by kernel_rfl), till_gone (by kernel_rfl)⟩ ?_
  clear hK K
  (try simp only [Act.put, List.setIfInBounds_toArray, List.set_cons_zero, List.set_cons_succ])
  refine till_done (by kernel_rfl) ?_ _

  clear cx cy zx zy zx' zy' cy2 hs1
  go_wp2_with fail
  refine (r_SameFronts ((List.range N).map R) ((List.range N).map (exch R' x y)) pa _ N N pc cap true _ (by simp) (by simp) HEX.out (by exact P.out.below HPF.out) (by exact HXR.out) (by omega) (by omega) (fun r hr => by obtain ⟨b, _, rfl⟩ := List.mem_map.1 hr; have := HR4.out b; omega) (fun r hr => by obtain ⟨b, _, rfl⟩ := List.mem_map.1 hr; exact HR5.out b)).mono ?_
  rintro e wz ⟨rfl, hb⟩
  have hBz := bthen HBF.out hb
  clear hb HBF HPF
  go_wp2
  go_ret
  exact ⟨rfl, hBz⟩
set_option maxHeartbeats 8000000 in
set_option maxRecDepth 100000 in
theorem named_A1 (m : Mk) (mv : Value) (l : List Int) (la : Option Addr) (lc : Nat) (x y : Nat) (width : Int) (w : World) (hm : MkRd w m mv) (hl : RdI w la l) (hll : l.length ≤ 140737488355328) (hask : askedB m l [(x : Int), y, x] = true) (h0' : 0 ≤ width) (h1' : width ≤ 16777216) (hk24 : m.ks.length ≤ 24) (ho12 : m.os.length ≤ 12) (N : Nat) (hN2 : 2 ≤ N) (hN8 : N ≤ 8) (hxN : x < N) (hyN : y < N) (hxy : x ≠ y) (tN : ((N : Int) != m.n) = false) (p : Int) (is : Bool) (bl : List Int) (isb : Bool) (tl : List Int) (ist : Bool) (s : Int) (one : Bool) (e0 : Int) (R R' : Nat → List (Int × Int)) (e1 : widthF m l x x = (p, is, 0)) (e2 : widthF (swM x y m) l y y = (p, is, 0)) (e3 : bestF m x x width = (bl, isb, 0)) (e4 : bestF (swM x y m) y y width = (bl, isb, 0)) (LB' : bl.length ≤ 140737488355328) (e5 : togF m width = (tl, ist, 0)) (e6 : togF (swM x y m) width = (tl, ist, 0)) (LT' : tl.length ≤ 140737488355328) (hp : 0 < m.os.length → priceF m x x width 0 = (s, one, e0) ∧ priceF (swM x y m) y y width 0 = (s, one, e0)) (f1 : frontsLF m x = ((List.range N).map R, 0)) (f2 : frontsLF (swM x y m) y = ((List.range N).map R', 0)) (hex : decide ((List.range N).map R = (List.range N).map (exch R' x y)) = true) (r4 : ∀ b, (R b).length ≤ 4096) (r5 : ∀ b, (exch R' x y b).length ≤ 140737488355328) (ho : 0 < m.os.length) :
    Calls Try.prog 5 #[mv, .slice la l.length lc, .int .i64 x, .int .i64 y, .int .i64 x, .int .i64 width] w fun e w' => e = .returned (.bool true) ∧ Below w.heap.size w w' := by
  have HM := Lib.hid hm
  obtain ⟨ka, kc, oa, oc, rfl, _⟩ := hm
  have HASK := Lib.hid hask
  have HW1 := Lib.hid e1
  have HW2 := Lib.hid e2
  have HB1 := Lib.hid e3
  have HB2 := Lib.hid e4
  have HT1 := Lib.hid e5
  have HT2 := Lib.hid e6
  have HP := Lib.hid hp
  have HF1 := Lib.hid f1
  have HF2 := Lib.hid f2
  have HEX := Lib.hid hex
  have HR4 := Lib.hid r4
  have HR5 := Lib.hid r5
  have x0 : (0 : Int) ≤ (x : Int) := Int.natCast_nonneg _
  have y0 : (0 : Int) ≤ (y : Int) := Int.natCast_nonneg _
  have xN : (x : Int) < (N : Int) := by omega
  have yN : (y : Int) < (N : Int) := by omega
  have t1 : ((x : Int) == (y : Int)) = false := by simp; omega
  have HL := Lib.hid hl
  clear hask e1 e2 e3 e4 e5 e6 hp f1 f2 hex r4 r5 hl
  have t3 : ((x : Int) == (x : Int)) = true := by simp
  go_enter Try.func5, Try.ntmps5
  go_wp2_with fail
  refine (l_sane _).mono ?_
  rintro e w1 ⟨rfl, hb⟩
  have hbk : Below w.heap.size w w1 := bthen (bal (Below.refl _ _) (.cells #[.int .i64 m.n, .slice ka m.ks.length kc, .slice oa m.os.length oc] 24)) hb
  have m0 := below_cell hb (show (w.alloc (.cells #[.int .i64 m.n, .slice ka m.ks.length kc, .slice oa m.os.length oc] 24)).cell? ⟨w.heap.size, 0, none⟩ = some (.int .i64 m.n) from by simp)
  have m1 := below_cell hb (show (w.alloc (.cells #[.int .i64 m.n, .slice ka m.ks.length kc, .slice oa m.os.length oc] 24)).cell? ⟨w.heap.size, 1, none⟩ = some (.slice ka m.ks.length kc) from by simp)
  have m2 := below_cell hb (show (w.alloc (.cells #[.int .i64 m.n, .slice ka m.ks.length kc, .slice oa m.os.length oc] 24)).cell? ⟨w.heap.size, 2, none⟩ = some (.slice oa m.os.length oc) from by simp)
  have hlt_m0 : w.heap.size < w1.heap.size := World.block_lt_of_cell? w1 _ m0
  replace HM := Lib.hid (HM.out.below hbk)
  replace HL := Lib.hid (HL.out.below hbk)
  have hB := hbk
  clear hbk hb
  go_wp2_with fail
  refine (l_asked m _ l [x, y, x] la _ lc _ 3 _ (by exact HM.out.below (bal (Below.refl _ _) (.cells #[.int .i64 x, .int .i64 y, .int .i64 x] 3))) (by exact HL.out.below (bal (Below.refl _ _) (.cells #[.int .i64 x, .int .i64 y, .int .i64 x] 3))) hll (by simpa using rdI_new w1 [x, y, x] 3 : RdI _ (some ⟨w1.heap.size, 0, none⟩) [x, y, x]) rfl (by decide)).mono ?_
  rintro e w2 ⟨rfl, hb⟩
  rw [HASK.out]
  have hbk : Below w1.heap.size w1 w2 := bthen (bal (Below.refl _ _) (.cells #[.int .i64 x, .int .i64 y, .int .i64 x] 3)) hb
  replace m0 := below_cell hbk m0
  replace m1 := below_cell hbk m1
  replace m2 := below_cell hbk m2
  replace hlt_m0 : w.heap.size < w2.heap.size := World.block_lt_of_cell? w2 _ m0
  replace HM := Lib.hid (HM.out.below hbk)
  replace HL := Lib.hid (HL.out.below hbk)
  replace hB := bthen hB hbk
  clear hbk hb
  go_wp2_with fail
  refine (l_renamed m _ x y _ (by exact HM.out.below (Below.refl _ _)) hk24 ho12).mono ?_
  rintro e w3 ⟨mv', rfl, hmk, hb⟩
  have hbk : Below w2.heap.size w2 w3 := bthen (Below.refl _ _) hb
  replace m0 := below_cell hbk m0
  replace m1 := below_cell hbk m1
  replace m2 := below_cell hbk m2
  replace hlt_m0 : w.heap.size < w3.heap.size := World.block_lt_of_cell? w3 _ m0
  replace HM := Lib.hid (HM.out.below hbk)
  replace HL := Lib.hid (HL.out.below hbk)
  replace hB := bthen hB hbk
  have HN2 := Lib.hid hmk
  obtain ⟨n1, n1c, n2, n2c, rfl, _⟩ := hmk
  clear hbk hb
  go_wp2_with fail
  refine (k_Width m _ l la lc x x _ (by exact HM.out.below (bal (Below.refl _ _) (.cells #[.int .i64 (swM x y m).n, .slice n1 (swM x y m).ks.length n1c, .slice n2 (swM x y m).os.length n2c] 24))) (by exact HL.out.below (bal (Below.refl _ _) (.cells #[.int .i64 (swM x y m).n, .slice n1 (swM x y m).ks.length n1c, .slice n2 (swM x y m).os.length n2c] 24))) hll).mono ?_
  rintro e w4 ⟨rfl, hb⟩
  rw [HW1.out]
  have hbk : Below w3.heap.size w3 w4 := bthen (bal (Below.refl _ _) (.cells #[.int .i64 (swM x y m).n, .slice n1 (swM x y m).ks.length n1c, .slice n2 (swM x y m).os.length n2c] 24)) hb
  have q0 := below_cell hb (show (w3.alloc (.cells #[.int .i64 (swM x y m).n, .slice n1 (swM x y m).ks.length n1c, .slice n2 (swM x y m).os.length n2c] 24)).cell? ⟨w3.heap.size, 0, none⟩ = some (.int .i64 (swM x y m).n) from by simp)
  have q1 := below_cell hb (show (w3.alloc (.cells #[.int .i64 (swM x y m).n, .slice n1 (swM x y m).ks.length n1c, .slice n2 (swM x y m).os.length n2c] 24)).cell? ⟨w3.heap.size, 1, none⟩ = some (.slice n1 (swM x y m).ks.length n1c) from by simp)
  have q2 := below_cell hb (show (w3.alloc (.cells #[.int .i64 (swM x y m).n, .slice n1 (swM x y m).ks.length n1c, .slice n2 (swM x y m).os.length n2c] 24)).cell? ⟨w3.heap.size, 2, none⟩ = some (.slice n2 (swM x y m).os.length n2c) from by simp)
  replace m0 := below_cell hbk m0
  replace m1 := below_cell hbk m1
  replace m2 := below_cell hbk m2
  have hlt_q0 : w3.heap.size < w4.heap.size := World.block_lt_of_cell? w4 _ q0
  replace hlt_m0 : w.heap.size < w4.heap.size := World.block_lt_of_cell? w4 _ m0
  replace HM := Lib.hid (HM.out.below hbk)
  replace HL := Lib.hid (HL.out.below hbk)
  replace HN2 := Lib.hid (HN2.out.below hbk)
  replace hB := bthen hB hbk
  clear hbk hb
  go_wp2_with fail
  refine (k_Width (swM x y m) _ l la lc y y _ (by exact HN2.out.below (Below.refl _ _)) (by exact HL.out.below (Below.refl _ _)) hll).mono ?_
  rintro e w5 ⟨rfl, hb⟩
  rw [HW2.out]
  have hbk : Below w4.heap.size w4 w5 := bthen (Below.refl _ _) hb
  replace m0 := below_cell hbk m0
  replace m1 := below_cell hbk m1
  replace m2 := below_cell hbk m2
  replace q0 := below_cell hbk q0
  replace q1 := below_cell hbk q1
  replace q2 := below_cell hbk q2
  replace hlt_m0 : w.heap.size < w5.heap.size := World.block_lt_of_cell? w5 _ m0
  replace hlt_q0 : w3.heap.size < w5.heap.size := World.block_lt_of_cell? w5 _ q0
  replace HM := Lib.hid (HM.out.below hbk)
  replace HL := Lib.hid (HL.out.below hbk)
  replace HN2 := Lib.hid (HN2.out.below hbk)
  replace hB := bthen hB hbk
  clear hbk hb
  go_wp2_with fail
  refine (k_Best m _ x x width _ (by exact HM.out.below (Below.refl _ _))).mono ?_
  rintro e w6 ⟨v, rfl, hown, hb⟩
  rw [HB1.out] at hown ⊢
  have hbk : Below w5.heap.size w5 w6 := bthen (Below.refl _ _) hb
  replace m0 := below_cell hbk m0
  replace m1 := below_cell hbk m1
  replace m2 := below_cell hbk m2
  replace q0 := below_cell hbk q0
  replace q1 := below_cell hbk q1
  replace q2 := below_cell hbk q2
  replace hlt_m0 : w.heap.size < w6.heap.size := World.block_lt_of_cell? w6 _ m0
  replace hlt_q0 : w3.heap.size < w6.heap.size := World.block_lt_of_cell? w6 _ q0
  replace HM := Lib.hid (HM.out.below hbk)
  replace HL := Lib.hid (HL.out.below hbk)
  replace HN2 := Lib.hid (HN2.out.below hbk)
  replace hB := bthen hB hbk
  obtain ⟨Xa, Xc, rfl, X⟩ := own_rdI hown
  replace X := Lib.hid X
  clear hown
  clear hbk hb
  go_wp2_with fail
  refine (k_Best (swM x y m) _ y y width _ (by exact HN2.out.below (Below.refl _ _))).mono ?_
  rintro e w7 ⟨v, rfl, hown, hb⟩
  rw [HB2.out] at hown ⊢
  have hbk : Below w6.heap.size w6 w7 := bthen (Below.refl _ _) hb
  replace m0 := below_cell hbk m0
  replace m1 := below_cell hbk m1
  replace m2 := below_cell hbk m2
  replace q0 := below_cell hbk q0
  replace q1 := below_cell hbk q1
  replace q2 := below_cell hbk q2
  replace hlt_m0 : w.heap.size < w7.heap.size := World.block_lt_of_cell? w7 _ m0
  replace hlt_q0 : w3.heap.size < w7.heap.size := World.block_lt_of_cell? w7 _ q0
  replace HM := Lib.hid (HM.out.below hbk)
  replace HL := Lib.hid (HL.out.below hbk)
  replace HN2 := Lib.hid (HN2.out.below hbk)
  replace X := Lib.hid (X.out.below hbk)
  replace hB := bthen hB hbk
  obtain ⟨Ya, Yc, rfl, Y⟩ := own_rdI hown
  replace Y := Lib.hid Y
  clear hown
  clear hbk hb
  go_wp2_with fail
  refine (c_Equal bl bl _ _ _ _ _ _ true _ rfl rfl (by simp) (by exact X.out.below (Below.refl _ _)) (by exact Y.out.below (Below.refl _ _)) LB' LB').mono ?_
  rintro e w8 ⟨rfl, hb⟩
  have hbk : Below w7.heap.size w7 w8 := bthen (Below.refl _ _) hb
  replace m0 := below_cell hbk m0
  replace m1 := below_cell hbk m1
  replace m2 := below_cell hbk m2
  replace q0 := below_cell hbk q0
  replace q1 := below_cell hbk q1
  replace q2 := below_cell hbk q2
  replace hlt_m0 : w.heap.size < w8.heap.size := World.block_lt_of_cell? w8 _ m0
  replace hlt_q0 : w3.heap.size < w8.heap.size := World.block_lt_of_cell? w8 _ q0
  replace HM := Lib.hid (HM.out.below hbk)
  replace HL := Lib.hid (HL.out.below hbk)
  replace HN2 := Lib.hid (HN2.out.below hbk)
  replace X := Lib.hid (X.out.below hbk)
  replace Y := Lib.hid (Y.out.below hbk)
  replace hB := bthen hB hbk
  clear hbk hb
  clear X Y
  go_wp2_with fail
  refine (k_Together m _ width _ (by exact HM.out.below (Below.refl _ _))).mono ?_
  rintro e w9 ⟨v, rfl, hown, hb⟩
  rw [HT1.out] at hown ⊢
  have hbk : Below w8.heap.size w8 w9 := bthen (Below.refl _ _) hb
  replace m0 := below_cell hbk m0
  replace m1 := below_cell hbk m1
  replace m2 := below_cell hbk m2
  replace q0 := below_cell hbk q0
  replace q1 := below_cell hbk q1
  replace q2 := below_cell hbk q2
  replace hlt_m0 : w.heap.size < w9.heap.size := World.block_lt_of_cell? w9 _ m0
  replace hlt_q0 : w3.heap.size < w9.heap.size := World.block_lt_of_cell? w9 _ q0
  replace HM := Lib.hid (HM.out.below hbk)
  replace HL := Lib.hid (HL.out.below hbk)
  replace HN2 := Lib.hid (HN2.out.below hbk)
  replace hB := bthen hB hbk
  obtain ⟨Xa, Xc, rfl, X⟩ := own_rdI hown
  replace X := Lib.hid X
  clear hown
  clear hbk hb
  go_wp2_with fail
  refine (k_Together (swM x y m) _ width _ (by exact HN2.out.below (Below.refl _ _))).mono ?_
  rintro e w10 ⟨v, rfl, hown, hb⟩
  rw [HT2.out] at hown ⊢
  have hbk : Below w9.heap.size w9 w10 := bthen (Below.refl _ _) hb
  replace m0 := below_cell hbk m0
  replace m1 := below_cell hbk m1
  replace m2 := below_cell hbk m2
  replace q0 := below_cell hbk q0
  replace q1 := below_cell hbk q1
  replace q2 := below_cell hbk q2
  replace hlt_m0 : w.heap.size < w10.heap.size := World.block_lt_of_cell? w10 _ m0
  replace hlt_q0 : w3.heap.size < w10.heap.size := World.block_lt_of_cell? w10 _ q0
  replace HM := Lib.hid (HM.out.below hbk)
  replace HL := Lib.hid (HL.out.below hbk)
  replace HN2 := Lib.hid (HN2.out.below hbk)
  replace X := Lib.hid (X.out.below hbk)
  replace hB := bthen hB hbk
  obtain ⟨Ya, Yc, rfl, Y⟩ := own_rdI hown
  replace Y := Lib.hid Y
  clear hown
  clear hbk hb
  go_wp2_with fail
  refine (c_Equal tl tl _ _ _ _ _ _ true _ rfl rfl (by simp) (by exact X.out.below (Below.refl _ _)) (by exact Y.out.below (Below.refl _ _)) LT' LT').mono ?_
  rintro e w11 ⟨rfl, hb⟩
  have hbk : Below w10.heap.size w10 w11 := bthen (Below.refl _ _) hb
  replace m0 := below_cell hbk m0
  replace m1 := below_cell hbk m1
  replace m2 := below_cell hbk m2
  replace q0 := below_cell hbk q0
  replace q1 := below_cell hbk q1
  replace q2 := below_cell hbk q2
  replace hlt_m0 : w.heap.size < w11.heap.size := World.block_lt_of_cell? w11 _ m0
  replace hlt_q0 : w3.heap.size < w11.heap.size := World.block_lt_of_cell? w11 _ q0
  replace HM := Lib.hid (HM.out.below hbk)
  replace HL := Lib.hid (HL.out.below hbk)
  replace HN2 := Lib.hid (HN2.out.below hbk)
  replace X := Lib.hid (X.out.below hbk)
  replace Y := Lib.hid (Y.out.below hbk)
  replace hB := bthen hB hbk
  clear hbk hb
  clear X Y
  go_wp2_with fail
  refine (k_Price m _ x x width 0 _ (by exact HM.out.below (Below.refl _ _))).mono ?_
  rintro e w12 ⟨rfl, hb⟩
  rw [(HP.out ho).1]
  have hbk : Below w11.heap.size w11 w12 := bthen (Below.refl _ _) hb
  replace m0 := below_cell hbk m0
  replace m1 := below_cell hbk m1
  replace m2 := below_cell hbk m2
  replace q0 := below_cell hbk q0
  replace q1 := below_cell hbk q1
  replace q2 := below_cell hbk q2
  replace hlt_m0 : w.heap.size < w12.heap.size := World.block_lt_of_cell? w12 _ m0
  replace hlt_q0 : w3.heap.size < w12.heap.size := World.block_lt_of_cell? w12 _ q0
  replace HM := Lib.hid (HM.out.below hbk)
  replace HL := Lib.hid (HL.out.below hbk)
  replace HN2 := Lib.hid (HN2.out.below hbk)
  replace hB := bthen hB hbk
  clear hbk hb
  go_wp2_with fail
  refine (k_Price (swM x y m) _ y y width 0 _ (by exact HN2.out.below (Below.refl _ _))).mono ?_
  rintro e w13 ⟨rfl, hb⟩
  rw [(HP.out ho).2]
  have hbk : Below w12.heap.size w12 w13 := bthen (Below.refl _ _) hb
  replace m0 := below_cell hbk m0
  replace m1 := below_cell hbk m1
  replace m2 := below_cell hbk m2
  replace q0 := below_cell hbk q0
  replace q1 := below_cell hbk q1
  replace q2 := below_cell hbk q2
  replace hlt_m0 : w.heap.size < w13.heap.size := World.block_lt_of_cell? w13 _ m0
  replace hlt_q0 : w3.heap.size < w13.heap.size := World.block_lt_of_cell? w13 _ q0
  replace HM := Lib.hid (HM.out.below hbk)
  replace HL := Lib.hid (HL.out.below hbk)
  replace HN2 := Lib.hid (HN2.out.below hbk)
  replace hB := bthen hB hbk
  clear hbk hb
  go_wp2_with fail
  refine (k_FrontsN m _ x ((List.range N).map R) N _ (by exact HM.out.below (Below.refl _ _)) HF1.out (by simp)).mono ?_
  rintro e w14 ⟨pa, pc, rfl, hrd, hb⟩
  have hbk : Below w13.heap.size w13 w14 := bthen (Below.refl _ _) hb
  replace m0 := below_cell hbk m0
  replace m1 := below_cell hbk m1
  replace m2 := below_cell hbk m2
  replace q0 := below_cell hbk q0
  replace q1 := below_cell hbk q1
  replace q2 := below_cell hbk q2
  replace hlt_m0 : w.heap.size < w14.heap.size := World.block_lt_of_cell? w14 _ m0
  replace hlt_q0 : w3.heap.size < w14.heap.size := World.block_lt_of_cell? w14 _ q0
  replace HM := Lib.hid (HM.out.below hbk)
  replace HL := Lib.hid (HL.out.below hbk)
  replace HN2 := Lib.hid (HN2.out.below hbk)
  replace hB := bthen hB hbk
  have P := Lib.hid hrd
  clear hrd
  clear hbk hb
  go_wp2_with fail
  refine (k_FrontsN (swM x y m) _ y ((List.range N).map R') N _ (by exact HN2.out.below (Below.refl _ _)) HF2.out (by simp)).mono ?_
  rintro e w15 ⟨qa, qc, rfl, hrd, hb⟩
  have hbk : Below w14.heap.size w14 w15 := bthen (Below.refl _ _) hb
  replace m0 := below_cell hbk m0
  replace m1 := below_cell hbk m1
  replace m2 := below_cell hbk m2
  replace q0 := below_cell hbk q0
  replace q1 := below_cell hbk q1
  replace q2 := below_cell hbk q2
  replace hlt_m0 : w.heap.size < w15.heap.size := World.block_lt_of_cell? w15 _ m0
  replace hlt_q0 : w3.heap.size < w15.heap.size := World.block_lt_of_cell? w15 _ q0
  replace HM := Lib.hid (HM.out.below hbk)
  replace HL := Lib.hid (HL.out.below hbk)
  replace HN2 := Lib.hid (HN2.out.below hbk)
  replace P := Lib.hid (P.out.below hbk)
  replace hB := bthen hB hbk
  have Q := Lib.hid hrd
  clear hrd
  clear hbk hb
  have hsw := hB.size
  go_wp2_with fail
  refine (c_CloneLL R' N qa qc _ hN2 hN8 (by exact Q.out)).mono ?_
  rintro e w16 ⟨ra, rc, G, cap, rfl, hra, hcl, hG, hb⟩
  have hbk : Below w15.heap.size w15 w16 := bthen (Below.refl _ _) hb
  replace m0 := below_cell hbk m0
  replace m1 := below_cell hbk m1
  replace m2 := below_cell hbk m2
  replace q0 := below_cell hbk q0
  replace q1 := below_cell hbk q1
  replace q2 := below_cell hbk q2
  replace hlt_m0 : w.heap.size < w16.heap.size := World.block_lt_of_cell? w16 _ m0
  replace hlt_q0 : w3.heap.size < w16.heap.size := World.block_lt_of_cell? w16 _ q0
  replace HM := Lib.hid (HM.out.below hbk)
  replace HL := Lib.hid (HL.out.below hbk)
  replace HN2 := Lib.hid (HN2.out.below hbk)
  replace hB := bthen hB hbk
  have HRA := Lib.hid hra
  have HCL := Lib.hid (fun b hb => (hcl b hb).1)
  have HKP := Lib.hid ((KpC.refl G G _).below hbk)
  have HBC := Lib.hid hbk
  have cx := (hcl x hxN).1
  have cy := (hcl y hyN).1
  have zx := (hcl x hxN).2
  have zy := (hcl y hyN).2
  clear hra hcl
  clear hbk hb
  have hs1 := Lib.hid (show (fun w' : World => w'.cell? ⟨G, x, none⟩ = some (.slice (ra x) (R' x).length (rc x)) ∧ w'.cell? ⟨G, y, none⟩ = some (.slice (ra y) (R' y).length (rc y))) w16.drew from ⟨cdw cx, cdw cy⟩)
  have zx' : w16.drew.frozen? ⟨G, x, none⟩ = false := by simpa using zx
  have zy' : w16.drew.frozen? ⟨G, y, none⟩ = false := by simpa using zy
  have cy2 : (w16.drew.setCell ⟨G, x, none⟩ (.slice (ra y) (R' y).length (rc y))).cell? ⟨G, y, none⟩ = some (.slice (ra y) (R' y).length (rc y)) := by
    rw [World.cell?_setCell_other _ _ _ _ (by intro e; injection e with _ e2; omega)]; exact cdw cy
  have HXR := Lib.hid (show RdLL ((w16.drew.setCell ⟨G, x, none⟩ (.slice (ra y) (R' y).length (rc y))).setCell ⟨G, y, none⟩ (.slice (ra x) (R' x).length (rc x))) (some ⟨G, 0, none⟩) ((List.range N).map (exch R' x y)) from exch_rd hxN hyN hxy HRA.out (HKP.out.below (Below.refl _ _).drew) hG (fun b hb => cdw (HCL.out b hb)))
  have HPF := Lib.hid (show Below w15.heap.size w15 ((w16.drew.setCell ⟨G, x, none⟩ (.slice (ra y) (R' y).length (rc y))).setCell ⟨G, y, none⟩ (.slice (ra x) (R' x).length (rc x))) from (HBC.out.drew.setCell (p := ⟨G, x, none⟩) hG _).setCell (p := ⟨G, y, none⟩) hG _)
  have HBF := Lib.hid (show Below w.heap.size w ((w16.drew.setCell ⟨G, x, none⟩ (.slice (ra y) (R' y).length (rc y))).setCell ⟨G, y, none⟩ (.slice (ra x) (R' x).length (rc x))) from (hB.drew.setCell (p := ⟨G, x, none⟩) (by show w.heap.size ≤ G; omega) _).setCell (p := ⟨G, y, none⟩) (by show w.heap.size ≤ G; omega) _)
  clear HBC HKP hB HRA HCL
  go_wp2_with fail

  refine till_region (T := Till2 [13] (fun w' : World => w'.cell? ⟨G, x, none⟩ = some (.slice (ra x) (R' x).length (rc x)) ∧ w'.cell? ⟨G, y, none⟩ = some (.slice (ra y) (R' y).length (rc y))) [15] (fun _ : World => True)) (by kernel_rfl) ⟨till_hold hs1.out, till_hold trivial⟩ (fun _ => ?_)
  refine till_take1 (i := 0) (v := ?v0) rfl (by kernel_rfl) (by kernel_rfl) (by kernel_rfl) (by kernel_rfl) (by kernel_rfl) (by kernel_rfl) (by kernel_rfl) (fun _ _ _ h => h) (Or.inl ⟨by rfl, ?y0⟩) ⟨till_hold hs1.out, till_hold trivial⟩ (fun _ => ?r0)
  case y0 => (intro wS hSw; (try dsimp only at hSw); go_split_ands; go_simp <;> with_reducible rfl)
  (try simp only [Act.put, List.setIfInBounds_toArray, List.set_cons_zero, List.set_cons_succ])
  refine till_take1 (i := 1) (v := ?v1) rfl (by kernel_rfl) (by kernel_rfl) (by kernel_rfl) (by kernel_rfl) (by kernel_rfl) (by kernel_rfl) (by kernel_rfl) (fun _ _ _ h => h) (Or.inl ⟨by rfl, ?y1⟩) ⟨till_hold hs1.out, till_hold trivial⟩ (fun _ => ?r1)
  case y1 => (intro wS hSw; (try dsimp only at hSw); go_split_ands; go_simp <;> with_reducible rfl)
  (try simp only [Act.put, List.setIfInBounds_toArray, List.set_cons_zero, List.set_cons_succ])
  refine till_take2 (i := 2) (v := ?v2) rfl (by kernel_rfl) (by kernel_rfl) (by kernel_rfl) (by kernel_rfl) (by kernel_rfl) (by kernel_rfl) (by kernel_rfl) (fun _ _ _ h => h) (Or.inl ⟨by rfl, ?y2⟩) ⟨till_hold hs1.out, till_hold trivial⟩ (fun _ => ?r2)
  case y2 => (intro wS hSw; (try dsimp only at hSw); go_split_ands; go_simp <;> with_reducible rfl)
  (try simp only [Act.put, List.setIfInBounds_toArray, List.set_cons_zero, List.set_cons_succ])
  refine till_take2 (i := 3) (v := ?v3) rfl (by kernel_rfl) (by kernel_rfl) (by kernel_rfl) (by kernel_rfl) (by kernel_rfl) (by kernel_rfl) (by kernel_rfl) (fun _ _ _ h => h) (Or.inl ⟨by rfl, ?y3⟩) ⟨till_hold hs1.out, till_hold trivial⟩ (fun _ => ?r3)
  case y3 => (intro wS hSw; (try dsimp only at hSw); go_split_ands; go_simp <;> with_reducible rfl)
  (try simp only [Act.put, List.setIfInBounds_toArray, List.set_cons_zero, List.set_cons_succ])
  refine till_take1 (i := 4) (v := ?v4) rfl (by kernel_rfl) (by kernel_rfl) (by kernel_rfl) (by kernel_rfl) (by kernel_rfl) (by kernel_rfl) (by kernel_rfl) (fun _ _ _ h => h) (Or.inl ⟨by rfl, ?y4⟩) ⟨till_hold hs1.out, till_hold trivial⟩ (fun _ => ?r4)
  case y4 => (intro wS hSw; (try dsimp only at hSw); go_split_ands; go_simp <;> with_reducible rfl)
  (try simp only [Act.put, List.setIfInBounds_toArray, List.set_cons_zero, List.set_cons_succ])
  refine till_take1 (i := 5) (v := ?v5) rfl (by kernel_rfl) (by kernel_rfl) (by kernel_rfl) (by kernel_rfl) (by kernel_rfl) (by kernel_rfl) (by kernel_rfl) (fun _ _ _ h => h) (Or.inl ⟨by rfl, ?y5⟩) ⟨till_hold hs1.out, till_hold trivial⟩ (fun _ => ?r5)
  case y5 => (intro wS hSw; (try dsimp only at hSw); go_split_ands; go_simp <;> with_reducible rfl)
  (try simp only [Act.put, List.setIfInBounds_toArray, List.set_cons_zero, List.set_cons_succ])
  refine till_take1 (i := 6) (v := ?v6) rfl (by kernel_rfl) (by kernel_rfl) (by kernel_rfl) (by kernel_rfl) (by kernel_rfl) (by kernel_rfl) (by kernel_rfl) (fun _ _ _ h => h) (Or.inl ⟨by rfl, ?y6⟩) ⟨till_hold hs1.out, till_hold trivial⟩ (fun _ => ?r6)
  case y6 => (intro wS hSw; (try dsimp only at hSw); go_split_ands; go_simp <;> with_reducible rfl)
  (try simp only [Act.put, List.setIfInBounds_toArray, List.set_cons_zero, List.set_cons_succ])
  refine till_take1 (i := 7) (v := ?v7) rfl (by kernel_rfl) (by kernel_rfl) (by kernel_rfl) (by kernel_rfl) (by kernel_rfl) (by kernel_rfl) (by kernel_rfl) (fun _ _ _ h => h) (Or.inl ⟨by rfl, ?y7⟩) ⟨till_hold hs1.out, till_hold trivial⟩ (fun _ => ?r7)
  case y7 => (intro wS hSw; (try dsimp only at hSw); go_split_ands; go_simp <;> with_reducible rfl)
  (try simp only [Act.put, List.setIfInBounds_toArray, List.set_cons_zero, List.set_cons_succ])
  refine till_take2 (i := 8) (v := ?v8) rfl (by kernel_rfl) (by kernel_rfl) (by kernel_rfl) (by kernel_rfl) (by kernel_rfl) (by kernel_rfl) (by kernel_rfl) (fun _ _ _ h => h) (Or.inl ⟨by rfl, ?y8⟩) ⟨till_hold hs1.out, till_hold trivial⟩ (fun _ => ?r8)
  case y8 => (intro wS hSw; (try dsimp only at hSw); go_split_ands; go_simp <;> with_reducible rfl)
  (try simp only [Act.put, List.setIfInBounds_toArray, List.set_cons_zero, List.set_cons_succ])
  refine till_take2 (i := 9) (v := ?v9) rfl (by kernel_rfl) (by kernel_rfl) (by kernel_rfl) (by kernel_rfl) (by kernel_rfl) (by kernel_rfl) (by kernel_rfl) (fun _ _ _ h => h) (Or.inl ⟨by rfl, ?y9⟩) ⟨till_hold hs1.out, till_hold trivial⟩ (fun _ => ?r9)
  case y9 => (intro wS hSw; (try dsimp only at hSw); go_split_ands; go_simp <;> with_reducible rfl)
  (try simp only [Act.put, List.setIfInBounds_toArray, List.set_cons_zero, List.set_cons_succ])
  refine till_take2 (i := 10) (v := ?v10) rfl (by kernel_rfl) (by kernel_rfl) (by kernel_rfl) (by kernel_rfl) (by kernel_rfl) (by kernel_rfl) (by kernel_rfl) (fun _ _ _ h => h) (Or.inl ⟨by rfl, ?y10⟩) ⟨till_hold hs1.out, till_hold trivial⟩ (fun _ => ?r10)
  case y10 => (intro wS hSw; (try dsimp only at hSw); go_split_ands; go_simp <;> with_reducible rfl)
  (try simp only [Act.put, List.setIfInBounds_toArray, List.set_cons_zero, List.set_cons_succ])
  refine till_take1 (i := 11) (v := ?v11) rfl (by kernel_rfl) (by kernel_rfl) (by kernel_rfl) (by kernel_rfl) (by kernel_rfl) (by kernel_rfl) (by kernel_rfl) (fun _ _ _ h => h) (Or.inl ⟨by rfl, ?y11⟩) ⟨till_hold hs1.out, till_hold trivial⟩ (fun _ => ?r11)
  case y11 => (intro wS hSw; (try dsimp only at hSw); go_split_ands; go_simp <;> with_reducible rfl)
  (try simp only [Act.put, List.setIfInBounds_toArray, List.set_cons_zero, List.set_cons_succ])
  refine till_ready (i := 12) (o := _) (by kernel_rfl) rfl (fun K hK => ?_)
  go_simp
  refine hK.out _ _ ⟨till_hold hs1.out, till_hold trivial⟩ ?_
  clear hK K
  (try simp only [Act.put, List.setIfInBounds_toArray, List.set_cons_zero, List.set_cons_succ])
  refine till_ready (i := 13) (o := _) (by kernel_rfl) rfl (fun K hK => ?_)
  go_simp
  refine hK.out _ _ ⟨till_gone (by kernel_rfl), till_hold trivial⟩ ?_
  clear hK K
  (try simp only [Act.put, List.setIfInBounds_toArray, List.set_cons_zero, List.set_cons_succ])
  refine till_ready (i := 14) (o := _) (by kernel_rfl) rfl (fun K hK => ?_)
  go_simp
  refine hK.out _ _ ⟨till_gone (by kernel_rfl), till_hold trivial⟩ ?_
  clear hK K
  (try simp only [Act.put, List.setIfInBounds_toArray, List.set_cons_zero, List.set_cons_succ])
  refine till_ready (i := 15) (o := _) (by kernel_rfl) rfl (fun K hK => ?_)
  go_simp
  refine hK.out _ _ ⟨till_gone (by kernel_rfl), till_gone (by kernel_rfl)⟩ ?_
  clear hK K
  (try simp only [Act.put, List.setIfInBounds_toArray, List.set_cons_zero, List.set_cons_succ])
  refine till_done (by kernel_rfl) ?_ _

  clear cx cy zx zy zx' zy' cy2 hs1
  go_wp2_with fail
  refine (r_SameFronts ((List.range N).map R) ((List.range N).map (exch R' x y)) pa _ N N pc cap true _ (by simp) (by simp) HEX.out (by exact P.out.below HPF.out) (by exact HXR.out) (by omega) (by omega) (fun r hr => by obtain ⟨b, _, rfl⟩ := List.mem_map.1 hr; have := HR4.out b; omega) (fun r hr => by obtain ⟨b, _, rfl⟩ := List.mem_map.1 hr; exact HR5.out b)).mono ?_
  rintro e wz ⟨rfl, hb⟩
  have hBz := bthen HBF.out hb
  clear hb HBF HPF
  go_wp2
  go_ret
  exact ⟨rfl, hBz⟩
end Go.Proofs.Ytjdldmecjhddnaa
