/- KeeperCheapest: what it computes is true. -/
import Derived.Test.YtjdldmecjhddnaaK18
import Derived.Test.YtjdldmecjhddnaaKM8
import Derived.Test.YtjdldmecjhddnaaKA4
namespace Go.Proofs.Ytjdldmecjhddnaa
open Go.RowKit
set_option linter.unusedVariables false
set_option linter.unusedSimpArgs false

theorem k_FrontsE (m : Mk) (mv : Value) (a : Int) (rows : List (List (Int × Int))) (n : Nat) (w : World) (hm : MkRd w m mv) (hr : frontsLF m a = (rows, 0)) (hn : rows.length = n) :
    Calls Try.prog 31 #[mv, .int .i64 a] w fun e w' => ∃ va vc, e = .returned (.tuple #[.slice va n vc, .int .i64 0]) ∧ RdLL w' va rows ∧ Below w.heap.size w w' := by
  refine (k_Fronts m mv a w hm).mono ?_
  rintro e w' ⟨va, vc, he, hl, hb⟩
  rw [hr] at he hl
  subst hn
  exact ⟨va, vc, he, hl, hb⟩
set_option maxHeartbeats 8000000 in
set_option maxRecDepth 100000 in
theorem cheap_no (m : Mk) (mv : Value) (l : List Int) (la : Option Addr) (lc : Nat) (a width : Int) (y : Nat) (w : World) (hm : MkRd w m mv) (hl : RdI w la l) (hll : l.length ≤ 140737488355328) (hask : askedB m l [a, (y : Int)] = true) (h0' : 0 ≤ width) (h1' : width ≤ 16777216) (N : Nat) (hyN : (y : Int) < (N : Int)) (rows : List (List (Int × Int))) (F : List (Int × Int)) (n x : Int) (kn : Bool) (tN : ((N : Int) != m.n) = false) (e2 : frontsLF m a = (rows, 0)) (e3 : widthF m l a y = (n, kn, 0)) (e4 : costF m l = (x, 0)) (hRN : rows.length = N) (hRF : rows[y]? = some F) (hFL : F.length ≤ 4096) (e1 : bestF m a y width = ([], false, 0)) (q1 : kn = true → width < n) (q2 : ∀ q ∈ F, decide (q.2 ≤ width) = false) :
    Calls Try.prog 6 #[mv, .slice la l.length lc, .int .i64 a, .int .i64 y, .int .i64 width] w fun e w' => e = .returned (.bool true) ∧ Below w.heap.size w w' := by
  have HM := Lib.hid hm
  obtain ⟨ka, kc, oa, oc, rfl, _⟩ := hm
  have HASK := Lib.hid hask
  have HBE := Lib.hid e1
  have HFR := Lib.hid e2
  have HWD := Lib.hid e3
  have HCO := Lib.hid e4
  have HRN := Lib.hid hRN
  have HRF := Lib.hid hRF
  have y0 : (0 : Int) ≤ (y : Int) := Int.natCast_nonneg _
  have HL := Lib.hid hl
  clear hask e1 e2 e3 e4 hRN hRF hl
  have HQ2 := Lib.hid q2
  clear q2
  cases kn with
  | true =>
    have q3 := q1 rfl
    clear q1
    go_enter Try.func6, Try.ntmps6
    go_wp2_with fail
    refine (l_sane _).mono ?_
    rintro e w1 ⟨rfl, hb⟩
    have hbk : Below w.heap.size w w1 := bthen (bal (bal (Below.refl _ _) (.cells #[.int .i64 m.n, .slice ka m.ks.length kc, .slice oa m.os.length oc] 24)) (.cells #[.int .i64 width] 3)) hb
    have m0 := below_cell hb (cal (show (w.alloc (.cells #[.int .i64 m.n, .slice ka m.ks.length kc, .slice oa m.os.length oc] 24)).cell? ⟨w.heap.size, 0, none⟩ = some (.int .i64 m.n) from by simp) (.cells #[.int .i64 width] 3))
    have m1 := below_cell hb (cal (show (w.alloc (.cells #[.int .i64 m.n, .slice ka m.ks.length kc, .slice oa m.os.length oc] 24)).cell? ⟨w.heap.size, 1, none⟩ = some (.slice ka m.ks.length kc) from by simp) (.cells #[.int .i64 width] 3))
    have m2 := below_cell hb (cal (show (w.alloc (.cells #[.int .i64 m.n, .slice ka m.ks.length kc, .slice oa m.os.length oc] 24)).cell? ⟨w.heap.size, 2, none⟩ = some (.slice oa m.os.length oc) from by simp) (.cells #[.int .i64 width] 3))
    have wd0 := below_cell hb (show ((w.alloc (.cells #[.int .i64 m.n, .slice ka m.ks.length kc, .slice oa m.os.length oc] 24)).alloc (.cells #[.int .i64 width] 3)).cell? ⟨w.heap.size + 1, 0, none⟩ = some (.int .i64 width) from by simp)
    have hlt_m0 : w.heap.size < w1.heap.size := World.block_lt_of_cell? w1 _ m0
    have hlt_wd0 : w.heap.size + 1 < w1.heap.size := World.block_lt_of_cell? w1 _ wd0
    replace HM := Lib.hid (HM.out.below hbk)
    replace HL := Lib.hid (HL.out.below hbk)
    have hB := hbk
    clear hbk hb
    go_wp2_with fail
    refine (l_asked m _ l [a, y] la _ lc _ 2 _ (by exact HM.out.below (bal (Below.refl _ _) (.cells #[.int .i64 a, .int .i64 y] 3))) (by exact HL.out.below (bal (Below.refl _ _) (.cells #[.int .i64 a, .int .i64 y] 3))) hll (by simpa using rdI_new w1 [a, y] 3 : RdI _ (some ⟨w1.heap.size, 0, none⟩) [a, y]) rfl (by decide)).mono ?_
    rintro e w2 ⟨rfl, hb⟩
    rw [HASK.out]
    have hbk : Below w1.heap.size w1 w2 := bthen (bal (Below.refl _ _) (.cells #[.int .i64 a, .int .i64 y] 3)) hb
    replace m0 := below_cell hbk m0
    replace m1 := below_cell hbk m1
    replace m2 := below_cell hbk m2
    replace wd0 := below_cell hbk wd0
    replace hlt_m0 : w.heap.size < w2.heap.size := World.block_lt_of_cell? w2 _ m0
    replace hlt_wd0 : w.heap.size + 1 < w2.heap.size := World.block_lt_of_cell? w2 _ wd0
    replace HM := Lib.hid (HM.out.below hbk)
    replace HL := Lib.hid (HL.out.below hbk)
    replace hB := bthen hB hbk
    clear hbk hb
    go_wp2_with fail
    refine (k_Best m _ a y width _ (by exact HM.out.below (Below.refl _ _))).mono ?_
    rintro e w3 ⟨v, rfl, hown, hb⟩
    rw [HBE.out] at hown ⊢
    have hbk : Below w2.heap.size w2 w3 := bthen (Below.refl _ _) hb
    replace m0 := below_cell hbk m0
    replace m1 := below_cell hbk m1
    replace m2 := below_cell hbk m2
    replace wd0 := below_cell hbk wd0
    replace hlt_m0 : w.heap.size < w3.heap.size := World.block_lt_of_cell? w3 _ m0
    replace hlt_wd0 : w.heap.size + 1 < w3.heap.size := World.block_lt_of_cell? w3 _ wd0
    replace HM := Lib.hid (HM.out.below hbk)
    replace HL := Lib.hid (HL.out.below hbk)
    replace hB := bthen hB hbk
    obtain ⟨Ba, Bc, rfl, B⟩ := own_rdI hown
    replace B := Lib.hid B
    clear hown
    clear hbk hb
    go_wp2_with fail
    refine (k_FrontsE m _ a rows N _ (by exact HM.out.below (Below.refl _ _)) HFR.out HRN.out).mono ?_
    rintro e w4 ⟨va, vc, rfl, hrd, hb⟩
    have hbk : Below w3.heap.size w3 w4 := bthen (Below.refl _ _) hb
    replace m0 := below_cell hbk m0
    replace m1 := below_cell hbk m1
    replace m2 := below_cell hbk m2
    replace wd0 := below_cell hbk wd0
    replace hlt_m0 : w.heap.size < w4.heap.size := World.block_lt_of_cell? w4 _ m0
    replace hlt_wd0 : w.heap.size + 1 < w4.heap.size := World.block_lt_of_cell? w4 _ wd0
    replace HM := Lib.hid (HM.out.below hbk)
    replace HL := Lib.hid (HL.out.below hbk)
    replace B := Lib.hid (B.out.below hbk)
    replace hB := bthen hB hbk
    have FR := Lib.hid hrd
    clear hrd
    clear hbk hb
    go_wp2_with fail
    refine (k_Width m _ l la lc a y _ (by exact HM.out.below (Below.refl _ _)) (by exact HL.out.below (Below.refl _ _)) hll).mono ?_
    rintro e w5 ⟨rfl, hb⟩
    rw [HWD.out]
    have hbk : Below w4.heap.size w4 w5 := bthen (Below.refl _ _) hb
    replace m0 := below_cell hbk m0
    replace m1 := below_cell hbk m1
    replace m2 := below_cell hbk m2
    replace wd0 := below_cell hbk wd0
    replace hlt_m0 : w.heap.size < w5.heap.size := World.block_lt_of_cell? w5 _ m0
    replace hlt_wd0 : w.heap.size + 1 < w5.heap.size := World.block_lt_of_cell? w5 _ wd0
    replace HM := Lib.hid (HM.out.below hbk)
    replace HL := Lib.hid (HL.out.below hbk)
    replace B := Lib.hid (B.out.below hbk)
    replace FR := Lib.hid (FR.out.below hbk)
    replace hB := bthen hB hbk
    clear hbk hb
    go_wp2_with fail
    refine (k_Cost m _ l la lc _ (by exact HM.out.below (Below.refl _ _)) (by exact HL.out.below (Below.refl _ _)) hll).mono ?_
    rintro e w6 ⟨rfl, hb⟩
    rw [HCO.out]
    have hbk : Below w5.heap.size w5 w6 := bthen (Below.refl _ _) hb
    replace m0 := below_cell hbk m0
    replace m1 := below_cell hbk m1
    replace m2 := below_cell hbk m2
    replace wd0 := below_cell hbk wd0
    replace hlt_m0 : w.heap.size < w6.heap.size := World.block_lt_of_cell? w6 _ m0
    replace hlt_wd0 : w.heap.size + 1 < w6.heap.size := World.block_lt_of_cell? w6 _ wd0
    replace HM := Lib.hid (HM.out.below hbk)
    replace HL := Lib.hid (HL.out.below hbk)
    replace B := Lib.hid (B.out.below hbk)
    replace FR := Lib.hid (FR.out.below hbk)
    replace hB := bthen hB hbk
    clear hbk hb
    obtain ⟨b1, off1, F1, ra, rc, rfl, h1, c1, r1⟩ := FR.out.at (i := y) (by rw [HRN.out]; omega)
    have e1 : F = F1 := Option.some.inj (HRF.out.symm.trans h1)
    subst e1
    have RF := Lib.hid r1
    clear h1 r1
    clear FR
    go_wp2_with fail
    refine (c_IndexFuncP F (fun q => decide (q.2 ≤ width)) ra F.length rc _ _ rfl (by exact RF.out.below (Below.refl _ _)) (by omega) ⟨36, #[.pointer (some ⟨w.heap.size + 1, 0, none⟩)], rfl, enters_of Try.func36 (by kernel_rfl) rfl, fun W q hW => l_cheap1 width q (w.heap.size + 1) W (below_cell hW wd0)⟩).mono ?_
    rintro e w7 ⟨r, rfl, hr, hb⟩
    have hbk : Below w6.heap.size w6 w7 := bthen (Below.refl _ _) hb
    replace m0 := below_cell hbk m0
    replace m1 := below_cell hbk m1
    replace m2 := below_cell hbk m2
    replace wd0 := below_cell hbk wd0
    replace c1 := below_cell hbk c1
    replace hlt_m0 : w.heap.size < w7.heap.size := World.block_lt_of_cell? w7 _ m0
    replace hlt_wd0 : w.heap.size + 1 < w7.heap.size := World.block_lt_of_cell? w7 _ wd0
    replace HM := Lib.hid (HM.out.below hbk)
    replace HL := Lib.hid (HL.out.below hbk)
    replace B := Lib.hid (B.out.below hbk)
    replace RF := Lib.hid (RF.out.below hbk)
    replace hB := bthen hB hbk
    obtain rfl : r = -1 := by
      rcases hr.out with ⟨k, q, _, h1, h2, _⟩ | ⟨h1, _⟩
      · have h3 : decide (q.2 ≤ width) = true := h2
        rw [HQ2.out q (List.mem_of_getElem? h1)] at h3; cases h3
      · exact h1
    clear hr
    clear hbk hb
    go_wp2
    go_ret
    exact ⟨rfl, hB⟩
  | false =>
    clear q1
    go_enter Try.func6, Try.ntmps6
    go_wp2_with fail
    refine (l_sane _).mono ?_
    rintro e w1 ⟨rfl, hb⟩
    have hbk : Below w.heap.size w w1 := bthen (bal (bal (Below.refl _ _) (.cells #[.int .i64 m.n, .slice ka m.ks.length kc, .slice oa m.os.length oc] 24)) (.cells #[.int .i64 width] 3)) hb
    have m0 := below_cell hb (cal (show (w.alloc (.cells #[.int .i64 m.n, .slice ka m.ks.length kc, .slice oa m.os.length oc] 24)).cell? ⟨w.heap.size, 0, none⟩ = some (.int .i64 m.n) from by simp) (.cells #[.int .i64 width] 3))
    have m1 := below_cell hb (cal (show (w.alloc (.cells #[.int .i64 m.n, .slice ka m.ks.length kc, .slice oa m.os.length oc] 24)).cell? ⟨w.heap.size, 1, none⟩ = some (.slice ka m.ks.length kc) from by simp) (.cells #[.int .i64 width] 3))
    have m2 := below_cell hb (cal (show (w.alloc (.cells #[.int .i64 m.n, .slice ka m.ks.length kc, .slice oa m.os.length oc] 24)).cell? ⟨w.heap.size, 2, none⟩ = some (.slice oa m.os.length oc) from by simp) (.cells #[.int .i64 width] 3))
    have wd0 := below_cell hb (show ((w.alloc (.cells #[.int .i64 m.n, .slice ka m.ks.length kc, .slice oa m.os.length oc] 24)).alloc (.cells #[.int .i64 width] 3)).cell? ⟨w.heap.size + 1, 0, none⟩ = some (.int .i64 width) from by simp)
    have hlt_m0 : w.heap.size < w1.heap.size := World.block_lt_of_cell? w1 _ m0
    have hlt_wd0 : w.heap.size + 1 < w1.heap.size := World.block_lt_of_cell? w1 _ wd0
    replace HM := Lib.hid (HM.out.below hbk)
    replace HL := Lib.hid (HL.out.below hbk)
    have hB := hbk
    clear hbk hb
    go_wp2_with fail
    refine (l_asked m _ l [a, y] la _ lc _ 2 _ (by exact HM.out.below (bal (Below.refl _ _) (.cells #[.int .i64 a, .int .i64 y] 3))) (by exact HL.out.below (bal (Below.refl _ _) (.cells #[.int .i64 a, .int .i64 y] 3))) hll (by simpa using rdI_new w1 [a, y] 3 : RdI _ (some ⟨w1.heap.size, 0, none⟩) [a, y]) rfl (by decide)).mono ?_
    rintro e w2 ⟨rfl, hb⟩
    rw [HASK.out]
    have hbk : Below w1.heap.size w1 w2 := bthen (bal (Below.refl _ _) (.cells #[.int .i64 a, .int .i64 y] 3)) hb
    replace m0 := below_cell hbk m0
    replace m1 := below_cell hbk m1
    replace m2 := below_cell hbk m2
    replace wd0 := below_cell hbk wd0
    replace hlt_m0 : w.heap.size < w2.heap.size := World.block_lt_of_cell? w2 _ m0
    replace hlt_wd0 : w.heap.size + 1 < w2.heap.size := World.block_lt_of_cell? w2 _ wd0
    replace HM := Lib.hid (HM.out.below hbk)
    replace HL := Lib.hid (HL.out.below hbk)
    replace hB := bthen hB hbk
    clear hbk hb
    go_wp2_with fail
    refine (k_Best m _ a y width _ (by exact HM.out.below (Below.refl _ _))).mono ?_
    rintro e w3 ⟨v, rfl, hown, hb⟩
    rw [HBE.out] at hown ⊢
    have hbk : Below w2.heap.size w2 w3 := bthen (Below.refl _ _) hb
    replace m0 := below_cell hbk m0
    replace m1 := below_cell hbk m1
    replace m2 := below_cell hbk m2
    replace wd0 := below_cell hbk wd0
    replace hlt_m0 : w.heap.size < w3.heap.size := World.block_lt_of_cell? w3 _ m0
    replace hlt_wd0 : w.heap.size + 1 < w3.heap.size := World.block_lt_of_cell? w3 _ wd0
    replace HM := Lib.hid (HM.out.below hbk)
    replace HL := Lib.hid (HL.out.below hbk)
    replace hB := bthen hB hbk
    obtain ⟨Ba, Bc, rfl, B⟩ := own_rdI hown
    replace B := Lib.hid B
    clear hown
    clear hbk hb
    go_wp2_with fail
    refine (k_FrontsE m _ a rows N _ (by exact HM.out.below (Below.refl _ _)) HFR.out HRN.out).mono ?_
    rintro e w4 ⟨va, vc, rfl, hrd, hb⟩
    have hbk : Below w3.heap.size w3 w4 := bthen (Below.refl _ _) hb
    replace m0 := below_cell hbk m0
    replace m1 := below_cell hbk m1
    replace m2 := below_cell hbk m2
    replace wd0 := below_cell hbk wd0
    replace hlt_m0 : w.heap.size < w4.heap.size := World.block_lt_of_cell? w4 _ m0
    replace hlt_wd0 : w.heap.size + 1 < w4.heap.size := World.block_lt_of_cell? w4 _ wd0
    replace HM := Lib.hid (HM.out.below hbk)
    replace HL := Lib.hid (HL.out.below hbk)
    replace B := Lib.hid (B.out.below hbk)
    replace hB := bthen hB hbk
    have FR := Lib.hid hrd
    clear hrd
    clear hbk hb
    go_wp2_with fail
    refine (k_Width m _ l la lc a y _ (by exact HM.out.below (Below.refl _ _)) (by exact HL.out.below (Below.refl _ _)) hll).mono ?_
    rintro e w5 ⟨rfl, hb⟩
    rw [HWD.out]
    have hbk : Below w4.heap.size w4 w5 := bthen (Below.refl _ _) hb
    replace m0 := below_cell hbk m0
    replace m1 := below_cell hbk m1
    replace m2 := below_cell hbk m2
    replace wd0 := below_cell hbk wd0
    replace hlt_m0 : w.heap.size < w5.heap.size := World.block_lt_of_cell? w5 _ m0
    replace hlt_wd0 : w.heap.size + 1 < w5.heap.size := World.block_lt_of_cell? w5 _ wd0
    replace HM := Lib.hid (HM.out.below hbk)
    replace HL := Lib.hid (HL.out.below hbk)
    replace B := Lib.hid (B.out.below hbk)
    replace FR := Lib.hid (FR.out.below hbk)
    replace hB := bthen hB hbk
    clear hbk hb
    go_wp2_with fail
    refine (k_Cost m _ l la lc _ (by exact HM.out.below (Below.refl _ _)) (by exact HL.out.below (Below.refl _ _)) hll).mono ?_
    rintro e w6 ⟨rfl, hb⟩
    rw [HCO.out]
    have hbk : Below w5.heap.size w5 w6 := bthen (Below.refl _ _) hb
    replace m0 := below_cell hbk m0
    replace m1 := below_cell hbk m1
    replace m2 := below_cell hbk m2
    replace wd0 := below_cell hbk wd0
    replace hlt_m0 : w.heap.size < w6.heap.size := World.block_lt_of_cell? w6 _ m0
    replace hlt_wd0 : w.heap.size + 1 < w6.heap.size := World.block_lt_of_cell? w6 _ wd0
    replace HM := Lib.hid (HM.out.below hbk)
    replace HL := Lib.hid (HL.out.below hbk)
    replace B := Lib.hid (B.out.below hbk)
    replace FR := Lib.hid (FR.out.below hbk)
    replace hB := bthen hB hbk
    clear hbk hb
    obtain ⟨b1, off1, F1, ra, rc, rfl, h1, c1, r1⟩ := FR.out.at (i := y) (by rw [HRN.out]; omega)
    have e1 : F = F1 := Option.some.inj (HRF.out.symm.trans h1)
    subst e1
    have RF := Lib.hid r1
    clear h1 r1
    clear FR
    go_wp2_with fail
    refine (c_IndexFuncP F (fun q => decide (q.2 ≤ width)) ra F.length rc _ _ rfl (by exact RF.out.below (Below.refl _ _)) (by omega) ⟨36, #[.pointer (some ⟨w.heap.size + 1, 0, none⟩)], rfl, enters_of Try.func36 (by kernel_rfl) rfl, fun W q hW => l_cheap1 width q (w.heap.size + 1) W (below_cell hW wd0)⟩).mono ?_
    rintro e w7 ⟨r, rfl, hr, hb⟩
    have hbk : Below w6.heap.size w6 w7 := bthen (Below.refl _ _) hb
    replace m0 := below_cell hbk m0
    replace m1 := below_cell hbk m1
    replace m2 := below_cell hbk m2
    replace wd0 := below_cell hbk wd0
    replace c1 := below_cell hbk c1
    replace hlt_m0 : w.heap.size < w7.heap.size := World.block_lt_of_cell? w7 _ m0
    replace hlt_wd0 : w.heap.size + 1 < w7.heap.size := World.block_lt_of_cell? w7 _ wd0
    replace HM := Lib.hid (HM.out.below hbk)
    replace HL := Lib.hid (HL.out.below hbk)
    replace B := Lib.hid (B.out.below hbk)
    replace RF := Lib.hid (RF.out.below hbk)
    replace hB := bthen hB hbk
    obtain rfl : r = -1 := by
      rcases hr.out with ⟨k, q, _, h1, h2, _⟩ | ⟨h1, _⟩
      · have h3 : decide (q.2 ≤ width) = true := h2
        rw [HQ2.out q (List.mem_of_getElem? h1)] at h3; cases h3
      · exact h1
    clear hr
    clear hbk hb
    go_wp2
    go_ret
    exact ⟨rfl, hB⟩
set_option maxHeartbeats 8000000 in
set_option maxRecDepth 100000 in
theorem cheap_yes (m : Mk) (mv : Value) (l : List Int) (la : Option Addr) (lc : Nat) (a width : Int) (y : Nat) (w : World) (hm : MkRd w m mv) (hl : RdI w la l) (hll : l.length ≤ 140737488355328) (hask : askedB m l [a, (y : Int)] = true) (h0' : 0 ≤ width) (h1' : width ≤ 16777216) (N : Nat) (hyN : (y : Int) < (N : Int)) (rows : List (List (Int × Int))) (F : List (Int × Int)) (n x : Int) (kn : Bool) (tN : ((N : Int) != m.n) = false) (e2 : frontsLF m a = (rows, 0)) (e3 : widthF m l a y = (n, kn, 0)) (e4 : costF m l = (x, 0)) (hRN : rows.length = N) (hRF : rows[y]? = some F) (hFL : F.length ≤ 4096) (bl : List Int) (z c : Int) (e1 : bestF m a y width = (bl, true, 0)) (e5 : costF m bl = (c, 0)) (e6 : widthF m bl a y = (z, true, 0)) (q1 : z ≤ width) (LB' : bl.length ≤ 140737488355328) (q2 : ∃ q ∈ F, decide (q.2 ≤ width) = true) (q3 : ∀ (k : Nat) (q : Int × Int), F[k]? = some q → decide (q.2 ≤ width) = true → (∀ j : Nat, j < k → ∀ q' : Int × Int, F[j]? = some q' → decide (q'.2 ≤ width) = false) → q.1 = c) (q4 : kn = true → n ≤ width → befL x l c bl = false) :
    Calls Try.prog 6 #[mv, .slice la l.length lc, .int .i64 a, .int .i64 y, .int .i64 width] w fun e w' => e = .returned (.bool true) ∧ Below w.heap.size w w' := by
  have HM := Lib.hid hm
  obtain ⟨ka, kc, oa, oc, rfl, _⟩ := hm
  have HASK := Lib.hid hask
  have HBE := Lib.hid e1
  have HFR := Lib.hid e2
  have HWD := Lib.hid e3
  have HCO := Lib.hid e4
  have HRN := Lib.hid hRN
  have HRF := Lib.hid hRF
  have y0 : (0 : Int) ≤ (y : Int) := Int.natCast_nonneg _
  have HL := Lib.hid hl
  clear hask e1 e2 e3 e4 hRN hRF hl
  have HC2 := Lib.hid e5
  have HW2 := Lib.hid e6
  have HQ2 := Lib.hid q2
  have HQ3 := Lib.hid q3
  have HQ4 := Lib.hid q4
  have t2 : (c == c) = true := by simp
  clear e5 e6 q2 q3 q4
  cases kn with
  | false =>
    go_enter Try.func6, Try.ntmps6
    go_wp2_with fail
    refine (l_sane _).mono ?_
    rintro e w1 ⟨rfl, hb⟩
    have hbk : Below w.heap.size w w1 := bthen (bal (bal (Below.refl _ _) (.cells #[.int .i64 m.n, .slice ka m.ks.length kc, .slice oa m.os.length oc] 24)) (.cells #[.int .i64 width] 3)) hb
    have m0 := below_cell hb (cal (show (w.alloc (.cells #[.int .i64 m.n, .slice ka m.ks.length kc, .slice oa m.os.length oc] 24)).cell? ⟨w.heap.size, 0, none⟩ = some (.int .i64 m.n) from by simp) (.cells #[.int .i64 width] 3))
    have m1 := below_cell hb (cal (show (w.alloc (.cells #[.int .i64 m.n, .slice ka m.ks.length kc, .slice oa m.os.length oc] 24)).cell? ⟨w.heap.size, 1, none⟩ = some (.slice ka m.ks.length kc) from by simp) (.cells #[.int .i64 width] 3))
    have m2 := below_cell hb (cal (show (w.alloc (.cells #[.int .i64 m.n, .slice ka m.ks.length kc, .slice oa m.os.length oc] 24)).cell? ⟨w.heap.size, 2, none⟩ = some (.slice oa m.os.length oc) from by simp) (.cells #[.int .i64 width] 3))
    have wd0 := below_cell hb (show ((w.alloc (.cells #[.int .i64 m.n, .slice ka m.ks.length kc, .slice oa m.os.length oc] 24)).alloc (.cells #[.int .i64 width] 3)).cell? ⟨w.heap.size + 1, 0, none⟩ = some (.int .i64 width) from by simp)
    have hlt_m0 : w.heap.size < w1.heap.size := World.block_lt_of_cell? w1 _ m0
    have hlt_wd0 : w.heap.size + 1 < w1.heap.size := World.block_lt_of_cell? w1 _ wd0
    replace HM := Lib.hid (HM.out.below hbk)
    replace HL := Lib.hid (HL.out.below hbk)
    have hB := hbk
    clear hbk hb
    go_wp2_with fail
    refine (l_asked m _ l [a, y] la _ lc _ 2 _ (by exact HM.out.below (bal (Below.refl _ _) (.cells #[.int .i64 a, .int .i64 y] 3))) (by exact HL.out.below (bal (Below.refl _ _) (.cells #[.int .i64 a, .int .i64 y] 3))) hll (by simpa using rdI_new w1 [a, y] 3 : RdI _ (some ⟨w1.heap.size, 0, none⟩) [a, y]) rfl (by decide)).mono ?_
    rintro e w2 ⟨rfl, hb⟩
    rw [HASK.out]
    have hbk : Below w1.heap.size w1 w2 := bthen (bal (Below.refl _ _) (.cells #[.int .i64 a, .int .i64 y] 3)) hb
    replace m0 := below_cell hbk m0
    replace m1 := below_cell hbk m1
    replace m2 := below_cell hbk m2
    replace wd0 := below_cell hbk wd0
    replace hlt_m0 : w.heap.size < w2.heap.size := World.block_lt_of_cell? w2 _ m0
    replace hlt_wd0 : w.heap.size + 1 < w2.heap.size := World.block_lt_of_cell? w2 _ wd0
    replace HM := Lib.hid (HM.out.below hbk)
    replace HL := Lib.hid (HL.out.below hbk)
    replace hB := bthen hB hbk
    clear hbk hb
    go_wp2_with fail
    refine (k_Best m _ a y width _ (by exact HM.out.below (Below.refl _ _))).mono ?_
    rintro e w3 ⟨v, rfl, hown, hb⟩
    rw [HBE.out] at hown ⊢
    have hbk : Below w2.heap.size w2 w3 := bthen (Below.refl _ _) hb
    replace m0 := below_cell hbk m0
    replace m1 := below_cell hbk m1
    replace m2 := below_cell hbk m2
    replace wd0 := below_cell hbk wd0
    replace hlt_m0 : w.heap.size < w3.heap.size := World.block_lt_of_cell? w3 _ m0
    replace hlt_wd0 : w.heap.size + 1 < w3.heap.size := World.block_lt_of_cell? w3 _ wd0
    replace HM := Lib.hid (HM.out.below hbk)
    replace HL := Lib.hid (HL.out.below hbk)
    replace hB := bthen hB hbk
    obtain ⟨Ba, Bc, rfl, B⟩ := own_rdI hown
    replace B := Lib.hid B
    clear hown
    clear hbk hb
    go_wp2_with fail
    refine (k_FrontsE m _ a rows N _ (by exact HM.out.below (Below.refl _ _)) HFR.out HRN.out).mono ?_
    rintro e w4 ⟨va, vc, rfl, hrd, hb⟩
    have hbk : Below w3.heap.size w3 w4 := bthen (Below.refl _ _) hb
    replace m0 := below_cell hbk m0
    replace m1 := below_cell hbk m1
    replace m2 := below_cell hbk m2
    replace wd0 := below_cell hbk wd0
    replace hlt_m0 : w.heap.size < w4.heap.size := World.block_lt_of_cell? w4 _ m0
    replace hlt_wd0 : w.heap.size + 1 < w4.heap.size := World.block_lt_of_cell? w4 _ wd0
    replace HM := Lib.hid (HM.out.below hbk)
    replace HL := Lib.hid (HL.out.below hbk)
    replace B := Lib.hid (B.out.below hbk)
    replace hB := bthen hB hbk
    have FR := Lib.hid hrd
    clear hrd
    clear hbk hb
    go_wp2_with fail
    refine (k_Width m _ l la lc a y _ (by exact HM.out.below (Below.refl _ _)) (by exact HL.out.below (Below.refl _ _)) hll).mono ?_
    rintro e w5 ⟨rfl, hb⟩
    rw [HWD.out]
    have hbk : Below w4.heap.size w4 w5 := bthen (Below.refl _ _) hb
    replace m0 := below_cell hbk m0
    replace m1 := below_cell hbk m1
    replace m2 := below_cell hbk m2
    replace wd0 := below_cell hbk wd0
    replace hlt_m0 : w.heap.size < w5.heap.size := World.block_lt_of_cell? w5 _ m0
    replace hlt_wd0 : w.heap.size + 1 < w5.heap.size := World.block_lt_of_cell? w5 _ wd0
    replace HM := Lib.hid (HM.out.below hbk)
    replace HL := Lib.hid (HL.out.below hbk)
    replace B := Lib.hid (B.out.below hbk)
    replace FR := Lib.hid (FR.out.below hbk)
    replace hB := bthen hB hbk
    clear hbk hb
    go_wp2_with fail
    refine (k_Cost m _ l la lc _ (by exact HM.out.below (Below.refl _ _)) (by exact HL.out.below (Below.refl _ _)) hll).mono ?_
    rintro e w6 ⟨rfl, hb⟩
    rw [HCO.out]
    have hbk : Below w5.heap.size w5 w6 := bthen (Below.refl _ _) hb
    replace m0 := below_cell hbk m0
    replace m1 := below_cell hbk m1
    replace m2 := below_cell hbk m2
    replace wd0 := below_cell hbk wd0
    replace hlt_m0 : w.heap.size < w6.heap.size := World.block_lt_of_cell? w6 _ m0
    replace hlt_wd0 : w.heap.size + 1 < w6.heap.size := World.block_lt_of_cell? w6 _ wd0
    replace HM := Lib.hid (HM.out.below hbk)
    replace HL := Lib.hid (HL.out.below hbk)
    replace B := Lib.hid (B.out.below hbk)
    replace FR := Lib.hid (FR.out.below hbk)
    replace hB := bthen hB hbk
    clear hbk hb
    obtain ⟨b1, off1, F1, ra, rc, rfl, h1, c1, r1⟩ := FR.out.at (i := y) (by rw [HRN.out]; omega)
    have e1 : F = F1 := Option.some.inj (HRF.out.symm.trans h1)
    subst e1
    have RF := Lib.hid r1
    clear h1 r1
    clear FR
    go_wp2_with fail
    refine (c_IndexFuncP F (fun q => decide (q.2 ≤ width)) ra F.length rc _ _ rfl (by exact RF.out.below (Below.refl _ _)) (by omega) ⟨36, #[.pointer (some ⟨w.heap.size + 1, 0, none⟩)], rfl, enters_of Try.func36 (by kernel_rfl) rfl, fun W q hW => l_cheap1 width q (w.heap.size + 1) W (below_cell hW wd0)⟩).mono ?_
    rintro e w7 ⟨r, rfl, hr, hb⟩
    have hbk : Below w6.heap.size w6 w7 := bthen (Below.refl _ _) hb
    replace m0 := below_cell hbk m0
    replace m1 := below_cell hbk m1
    replace m2 := below_cell hbk m2
    replace wd0 := below_cell hbk wd0
    replace c1 := below_cell hbk c1
    replace hlt_m0 : w.heap.size < w7.heap.size := World.block_lt_of_cell? w7 _ m0
    replace hlt_wd0 : w.heap.size + 1 < w7.heap.size := World.block_lt_of_cell? w7 _ wd0
    replace HM := Lib.hid (HM.out.below hbk)
    replace HL := Lib.hid (HL.out.below hbk)
    replace B := Lib.hid (B.out.below hbk)
    replace RF := Lib.hid (RF.out.below hbk)
    replace hB := bthen hB hbk
    obtain ⟨k, q, rfl, k1, k2, k3⟩ : ∃ (k : Nat) (q : Int × Int), r = ((k : Nat) : Int) ∧ F[k]? = some q ∧ decide (q.2 ≤ width) = true ∧ ∀ j : Nat, j < k → ∀ q' : Int × Int, F[j]? = some q' → decide (q'.2 ≤ width) = false := by
      rcases hr.out with h | ⟨_, h2⟩
      · exact h
      · obtain ⟨q, hq, hp⟩ := HQ2.out
        have h3 : decide (q.2 ≤ width) = false := h2 q hq
        rw [h3] at hp; cases hp
    have HQ1 := HQ3.out k q k1 k2 k3
    have hkF : k < F.length := by
      rcases Nat.lt_or_ge k F.length with h | h
      · exact h
      · rw [List.getElem?_eq_none h] at k1; cases k1
    have HK1 := Lib.hid k1
    have HQ := Lib.hid HQ1
    have k0 : (0 : Int) ≤ (k : Int) := Int.natCast_nonneg _
    clear hr k1 k2 k3 HQ1
    clear hbk hb
    go_wp2_with fail
    refine (k_Cost m _ bl _ _ _ (by exact HM.out.below (Below.refl _ _)) (by exact B.out.below (Below.refl _ _)) LB').mono ?_
    rintro e w8 ⟨rfl, hb⟩
    rw [HC2.out]
    have hbk : Below w7.heap.size w7 w8 := bthen (Below.refl _ _) hb
    replace m0 := below_cell hbk m0
    replace m1 := below_cell hbk m1
    replace m2 := below_cell hbk m2
    replace wd0 := below_cell hbk wd0
    replace c1 := below_cell hbk c1
    replace hlt_m0 : w.heap.size < w8.heap.size := World.block_lt_of_cell? w8 _ m0
    replace hlt_wd0 : w.heap.size + 1 < w8.heap.size := World.block_lt_of_cell? w8 _ wd0
    replace HM := Lib.hid (HM.out.below hbk)
    replace HL := Lib.hid (HL.out.below hbk)
    replace B := Lib.hid (B.out.below hbk)
    replace RF := Lib.hid (RF.out.below hbk)
    replace hB := bthen hB hbk
    clear hbk hb
    go_wp2_with fail
    refine (k_Width m _ bl _ _ a y _ (by exact HM.out.below (Below.refl _ _)) (by exact B.out.below (Below.refl _ _)) LB').mono ?_
    rintro e w9 ⟨rfl, hb⟩
    rw [HW2.out]
    have hbk : Below w8.heap.size w8 w9 := bthen (Below.refl _ _) hb
    replace m0 := below_cell hbk m0
    replace m1 := below_cell hbk m1
    replace m2 := below_cell hbk m2
    replace wd0 := below_cell hbk wd0
    replace c1 := below_cell hbk c1
    replace hlt_m0 : w.heap.size < w9.heap.size := World.block_lt_of_cell? w9 _ m0
    replace hlt_wd0 : w.heap.size + 1 < w9.heap.size := World.block_lt_of_cell? w9 _ wd0
    replace HM := Lib.hid (HM.out.below hbk)
    replace HL := Lib.hid (HL.out.below hbk)
    replace B := Lib.hid (B.out.below hbk)
    replace RF := Lib.hid (RF.out.below hbk)
    replace hB := bthen hB hbk
    obtain ⟨b2, off2, q', rfl, h2, p1, p2⟩ := RF.out.atp (i := k) hkF
    have e2 : q = q' := Option.some.inj (HK1.out.symm.trans h2)
    subst e2
    rw [HQ.out] at p1
    clear h2 p2
    clear hbk hb
    go_wp2
    go_ret
    exact ⟨rfl, hB⟩
  | true =>
    by_cases hn : width < n
    · go_enter Try.func6, Try.ntmps6
      go_wp2_with fail
      refine (l_sane _).mono ?_
      rintro e w1 ⟨rfl, hb⟩
      have hbk : Below w.heap.size w w1 := bthen (bal (bal (Below.refl _ _) (.cells #[.int .i64 m.n, .slice ka m.ks.length kc, .slice oa m.os.length oc] 24)) (.cells #[.int .i64 width] 3)) hb
      have m0 := below_cell hb (cal (show (w.alloc (.cells #[.int .i64 m.n, .slice ka m.ks.length kc, .slice oa m.os.length oc] 24)).cell? ⟨w.heap.size, 0, none⟩ = some (.int .i64 m.n) from by simp) (.cells #[.int .i64 width] 3))
      have m1 := below_cell hb (cal (show (w.alloc (.cells #[.int .i64 m.n, .slice ka m.ks.length kc, .slice oa m.os.length oc] 24)).cell? ⟨w.heap.size, 1, none⟩ = some (.slice ka m.ks.length kc) from by simp) (.cells #[.int .i64 width] 3))
      have m2 := below_cell hb (cal (show (w.alloc (.cells #[.int .i64 m.n, .slice ka m.ks.length kc, .slice oa m.os.length oc] 24)).cell? ⟨w.heap.size, 2, none⟩ = some (.slice oa m.os.length oc) from by simp) (.cells #[.int .i64 width] 3))
      have wd0 := below_cell hb (show ((w.alloc (.cells #[.int .i64 m.n, .slice ka m.ks.length kc, .slice oa m.os.length oc] 24)).alloc (.cells #[.int .i64 width] 3)).cell? ⟨w.heap.size + 1, 0, none⟩ = some (.int .i64 width) from by simp)
      have hlt_m0 : w.heap.size < w1.heap.size := World.block_lt_of_cell? w1 _ m0
      have hlt_wd0 : w.heap.size + 1 < w1.heap.size := World.block_lt_of_cell? w1 _ wd0
      replace HM := Lib.hid (HM.out.below hbk)
      replace HL := Lib.hid (HL.out.below hbk)
      have hB := hbk
      clear hbk hb
      go_wp2_with fail
      refine (l_asked m _ l [a, y] la _ lc _ 2 _ (by exact HM.out.below (bal (Below.refl _ _) (.cells #[.int .i64 a, .int .i64 y] 3))) (by exact HL.out.below (bal (Below.refl _ _) (.cells #[.int .i64 a, .int .i64 y] 3))) hll (by simpa using rdI_new w1 [a, y] 3 : RdI _ (some ⟨w1.heap.size, 0, none⟩) [a, y]) rfl (by decide)).mono ?_
      rintro e w2 ⟨rfl, hb⟩
      rw [HASK.out]
      have hbk : Below w1.heap.size w1 w2 := bthen (bal (Below.refl _ _) (.cells #[.int .i64 a, .int .i64 y] 3)) hb
      replace m0 := below_cell hbk m0
      replace m1 := below_cell hbk m1
      replace m2 := below_cell hbk m2
      replace wd0 := below_cell hbk wd0
      replace hlt_m0 : w.heap.size < w2.heap.size := World.block_lt_of_cell? w2 _ m0
      replace hlt_wd0 : w.heap.size + 1 < w2.heap.size := World.block_lt_of_cell? w2 _ wd0
      replace HM := Lib.hid (HM.out.below hbk)
      replace HL := Lib.hid (HL.out.below hbk)
      replace hB := bthen hB hbk
      clear hbk hb
      go_wp2_with fail
      refine (k_Best m _ a y width _ (by exact HM.out.below (Below.refl _ _))).mono ?_
      rintro e w3 ⟨v, rfl, hown, hb⟩
      rw [HBE.out] at hown ⊢
      have hbk : Below w2.heap.size w2 w3 := bthen (Below.refl _ _) hb
      replace m0 := below_cell hbk m0
      replace m1 := below_cell hbk m1
      replace m2 := below_cell hbk m2
      replace wd0 := below_cell hbk wd0
      replace hlt_m0 : w.heap.size < w3.heap.size := World.block_lt_of_cell? w3 _ m0
      replace hlt_wd0 : w.heap.size + 1 < w3.heap.size := World.block_lt_of_cell? w3 _ wd0
      replace HM := Lib.hid (HM.out.below hbk)
      replace HL := Lib.hid (HL.out.below hbk)
      replace hB := bthen hB hbk
      obtain ⟨Ba, Bc, rfl, B⟩ := own_rdI hown
      replace B := Lib.hid B
      clear hown
      clear hbk hb
      go_wp2_with fail
      refine (k_FrontsE m _ a rows N _ (by exact HM.out.below (Below.refl _ _)) HFR.out HRN.out).mono ?_
      rintro e w4 ⟨va, vc, rfl, hrd, hb⟩
      have hbk : Below w3.heap.size w3 w4 := bthen (Below.refl _ _) hb
      replace m0 := below_cell hbk m0
      replace m1 := below_cell hbk m1
      replace m2 := below_cell hbk m2
      replace wd0 := below_cell hbk wd0
      replace hlt_m0 : w.heap.size < w4.heap.size := World.block_lt_of_cell? w4 _ m0
      replace hlt_wd0 : w.heap.size + 1 < w4.heap.size := World.block_lt_of_cell? w4 _ wd0
      replace HM := Lib.hid (HM.out.below hbk)
      replace HL := Lib.hid (HL.out.below hbk)
      replace B := Lib.hid (B.out.below hbk)
      replace hB := bthen hB hbk
      have FR := Lib.hid hrd
      clear hrd
      clear hbk hb
      go_wp2_with fail
      refine (k_Width m _ l la lc a y _ (by exact HM.out.below (Below.refl _ _)) (by exact HL.out.below (Below.refl _ _)) hll).mono ?_
      rintro e w5 ⟨rfl, hb⟩
      rw [HWD.out]
      have hbk : Below w4.heap.size w4 w5 := bthen (Below.refl _ _) hb
      replace m0 := below_cell hbk m0
      replace m1 := below_cell hbk m1
      replace m2 := below_cell hbk m2
      replace wd0 := below_cell hbk wd0
      replace hlt_m0 : w.heap.size < w5.heap.size := World.block_lt_of_cell? w5 _ m0
      replace hlt_wd0 : w.heap.size + 1 < w5.heap.size := World.block_lt_of_cell? w5 _ wd0
      replace HM := Lib.hid (HM.out.below hbk)
      replace HL := Lib.hid (HL.out.below hbk)
      replace B := Lib.hid (B.out.below hbk)
      replace FR := Lib.hid (FR.out.below hbk)
      replace hB := bthen hB hbk
      clear hbk hb
      go_wp2_with fail
      refine (k_Cost m _ l la lc _ (by exact HM.out.below (Below.refl _ _)) (by exact HL.out.below (Below.refl _ _)) hll).mono ?_
      rintro e w6 ⟨rfl, hb⟩
      rw [HCO.out]
      have hbk : Below w5.heap.size w5 w6 := bthen (Below.refl _ _) hb
      replace m0 := below_cell hbk m0
      replace m1 := below_cell hbk m1
      replace m2 := below_cell hbk m2
      replace wd0 := below_cell hbk wd0
      replace hlt_m0 : w.heap.size < w6.heap.size := World.block_lt_of_cell? w6 _ m0
      replace hlt_wd0 : w.heap.size + 1 < w6.heap.size := World.block_lt_of_cell? w6 _ wd0
      replace HM := Lib.hid (HM.out.below hbk)
      replace HL := Lib.hid (HL.out.below hbk)
      replace B := Lib.hid (B.out.below hbk)
      replace FR := Lib.hid (FR.out.below hbk)
      replace hB := bthen hB hbk
      clear hbk hb
      obtain ⟨b1, off1, F1, ra, rc, rfl, h1, c1, r1⟩ := FR.out.at (i := y) (by rw [HRN.out]; omega)
      have e1 : F = F1 := Option.some.inj (HRF.out.symm.trans h1)
      subst e1
      have RF := Lib.hid r1
      clear h1 r1
      clear FR
      go_wp2_with fail
      refine (c_IndexFuncP F (fun q => decide (q.2 ≤ width)) ra F.length rc _ _ rfl (by exact RF.out.below (Below.refl _ _)) (by omega) ⟨36, #[.pointer (some ⟨w.heap.size + 1, 0, none⟩)], rfl, enters_of Try.func36 (by kernel_rfl) rfl, fun W q hW => l_cheap1 width q (w.heap.size + 1) W (below_cell hW wd0)⟩).mono ?_
      rintro e w7 ⟨r, rfl, hr, hb⟩
      have hbk : Below w6.heap.size w6 w7 := bthen (Below.refl _ _) hb
      replace m0 := below_cell hbk m0
      replace m1 := below_cell hbk m1
      replace m2 := below_cell hbk m2
      replace wd0 := below_cell hbk wd0
      replace c1 := below_cell hbk c1
      replace hlt_m0 : w.heap.size < w7.heap.size := World.block_lt_of_cell? w7 _ m0
      replace hlt_wd0 : w.heap.size + 1 < w7.heap.size := World.block_lt_of_cell? w7 _ wd0
      replace HM := Lib.hid (HM.out.below hbk)
      replace HL := Lib.hid (HL.out.below hbk)
      replace B := Lib.hid (B.out.below hbk)
      replace RF := Lib.hid (RF.out.below hbk)
      replace hB := bthen hB hbk
      obtain ⟨k, q, rfl, k1, k2, k3⟩ : ∃ (k : Nat) (q : Int × Int), r = ((k : Nat) : Int) ∧ F[k]? = some q ∧ decide (q.2 ≤ width) = true ∧ ∀ j : Nat, j < k → ∀ q' : Int × Int, F[j]? = some q' → decide (q'.2 ≤ width) = false := by
        rcases hr.out with h | ⟨_, h2⟩
        · exact h
        · obtain ⟨q, hq, hp⟩ := HQ2.out
          have h3 : decide (q.2 ≤ width) = false := h2 q hq
          rw [h3] at hp; cases hp
      have HQ1 := HQ3.out k q k1 k2 k3
      have hkF : k < F.length := by
        rcases Nat.lt_or_ge k F.length with h | h
        · exact h
        · rw [List.getElem?_eq_none h] at k1; cases k1
      have HK1 := Lib.hid k1
      have HQ := Lib.hid HQ1
      have k0 : (0 : Int) ≤ (k : Int) := Int.natCast_nonneg _
      clear hr k1 k2 k3 HQ1
      clear hbk hb
      go_wp2_with fail
      refine (k_Cost m _ bl _ _ _ (by exact HM.out.below (Below.refl _ _)) (by exact B.out.below (Below.refl _ _)) LB').mono ?_
      rintro e w8 ⟨rfl, hb⟩
      rw [HC2.out]
      have hbk : Below w7.heap.size w7 w8 := bthen (Below.refl _ _) hb
      replace m0 := below_cell hbk m0
      replace m1 := below_cell hbk m1
      replace m2 := below_cell hbk m2
      replace wd0 := below_cell hbk wd0
      replace c1 := below_cell hbk c1
      replace hlt_m0 : w.heap.size < w8.heap.size := World.block_lt_of_cell? w8 _ m0
      replace hlt_wd0 : w.heap.size + 1 < w8.heap.size := World.block_lt_of_cell? w8 _ wd0
      replace HM := Lib.hid (HM.out.below hbk)
      replace HL := Lib.hid (HL.out.below hbk)
      replace B := Lib.hid (B.out.below hbk)
      replace RF := Lib.hid (RF.out.below hbk)
      replace hB := bthen hB hbk
      clear hbk hb
      go_wp2_with fail
      refine (k_Width m _ bl _ _ a y _ (by exact HM.out.below (Below.refl _ _)) (by exact B.out.below (Below.refl _ _)) LB').mono ?_
      rintro e w9 ⟨rfl, hb⟩
      rw [HW2.out]
      have hbk : Below w8.heap.size w8 w9 := bthen (Below.refl _ _) hb
      replace m0 := below_cell hbk m0
      replace m1 := below_cell hbk m1
      replace m2 := below_cell hbk m2
      replace wd0 := below_cell hbk wd0
      replace c1 := below_cell hbk c1
      replace hlt_m0 : w.heap.size < w9.heap.size := World.block_lt_of_cell? w9 _ m0
      replace hlt_wd0 : w.heap.size + 1 < w9.heap.size := World.block_lt_of_cell? w9 _ wd0
      replace HM := Lib.hid (HM.out.below hbk)
      replace HL := Lib.hid (HL.out.below hbk)
      replace B := Lib.hid (B.out.below hbk)
      replace RF := Lib.hid (RF.out.below hbk)
      replace hB := bthen hB hbk
      obtain ⟨b2, off2, q', rfl, h2, p1, p2⟩ := RF.out.atp (i := k) hkF
      have e2 : q = q' := Option.some.inj (HK1.out.symm.trans h2)
      subst e2
      rw [HQ.out] at p1
      clear h2 p2
      clear hbk hb
      go_wp2
      go_ret
      exact ⟨rfl, hB⟩
    · have hn' : n ≤ width := by omega
      have HBF := Lib.hid (HQ4.out rfl hn')
      clear hn
      go_enter Try.func6, Try.ntmps6
      go_wp2_with fail
      refine (l_sane _).mono ?_
      rintro e w1 ⟨rfl, hb⟩
      have hbk : Below w.heap.size w w1 := bthen (bal (bal (Below.refl _ _) (.cells #[.int .i64 m.n, .slice ka m.ks.length kc, .slice oa m.os.length oc] 24)) (.cells #[.int .i64 width] 3)) hb
      have m0 := below_cell hb (cal (show (w.alloc (.cells #[.int .i64 m.n, .slice ka m.ks.length kc, .slice oa m.os.length oc] 24)).cell? ⟨w.heap.size, 0, none⟩ = some (.int .i64 m.n) from by simp) (.cells #[.int .i64 width] 3))
      have m1 := below_cell hb (cal (show (w.alloc (.cells #[.int .i64 m.n, .slice ka m.ks.length kc, .slice oa m.os.length oc] 24)).cell? ⟨w.heap.size, 1, none⟩ = some (.slice ka m.ks.length kc) from by simp) (.cells #[.int .i64 width] 3))
      have m2 := below_cell hb (cal (show (w.alloc (.cells #[.int .i64 m.n, .slice ka m.ks.length kc, .slice oa m.os.length oc] 24)).cell? ⟨w.heap.size, 2, none⟩ = some (.slice oa m.os.length oc) from by simp) (.cells #[.int .i64 width] 3))
      have wd0 := below_cell hb (show ((w.alloc (.cells #[.int .i64 m.n, .slice ka m.ks.length kc, .slice oa m.os.length oc] 24)).alloc (.cells #[.int .i64 width] 3)).cell? ⟨w.heap.size + 1, 0, none⟩ = some (.int .i64 width) from by simp)
      have hlt_m0 : w.heap.size < w1.heap.size := World.block_lt_of_cell? w1 _ m0
      have hlt_wd0 : w.heap.size + 1 < w1.heap.size := World.block_lt_of_cell? w1 _ wd0
      replace HM := Lib.hid (HM.out.below hbk)
      replace HL := Lib.hid (HL.out.below hbk)
      have hB := hbk
      clear hbk hb
      go_wp2_with fail
      refine (l_asked m _ l [a, y] la _ lc _ 2 _ (by exact HM.out.below (bal (Below.refl _ _) (.cells #[.int .i64 a, .int .i64 y] 3))) (by exact HL.out.below (bal (Below.refl _ _) (.cells #[.int .i64 a, .int .i64 y] 3))) hll (by simpa using rdI_new w1 [a, y] 3 : RdI _ (some ⟨w1.heap.size, 0, none⟩) [a, y]) rfl (by decide)).mono ?_
      rintro e w2 ⟨rfl, hb⟩
      rw [HASK.out]
      have hbk : Below w1.heap.size w1 w2 := bthen (bal (Below.refl _ _) (.cells #[.int .i64 a, .int .i64 y] 3)) hb
      replace m0 := below_cell hbk m0
      replace m1 := below_cell hbk m1
      replace m2 := below_cell hbk m2
      replace wd0 := below_cell hbk wd0
      replace hlt_m0 : w.heap.size < w2.heap.size := World.block_lt_of_cell? w2 _ m0
      replace hlt_wd0 : w.heap.size + 1 < w2.heap.size := World.block_lt_of_cell? w2 _ wd0
      replace HM := Lib.hid (HM.out.below hbk)
      replace HL := Lib.hid (HL.out.below hbk)
      replace hB := bthen hB hbk
      clear hbk hb
      go_wp2_with fail
      refine (k_Best m _ a y width _ (by exact HM.out.below (Below.refl _ _))).mono ?_
      rintro e w3 ⟨v, rfl, hown, hb⟩
      rw [HBE.out] at hown ⊢
      have hbk : Below w2.heap.size w2 w3 := bthen (Below.refl _ _) hb
      replace m0 := below_cell hbk m0
      replace m1 := below_cell hbk m1
      replace m2 := below_cell hbk m2
      replace wd0 := below_cell hbk wd0
      replace hlt_m0 : w.heap.size < w3.heap.size := World.block_lt_of_cell? w3 _ m0
      replace hlt_wd0 : w.heap.size + 1 < w3.heap.size := World.block_lt_of_cell? w3 _ wd0
      replace HM := Lib.hid (HM.out.below hbk)
      replace HL := Lib.hid (HL.out.below hbk)
      replace hB := bthen hB hbk
      obtain ⟨Ba, Bc, rfl, B⟩ := own_rdI hown
      replace B := Lib.hid B
      clear hown
      clear hbk hb
      go_wp2_with fail
      refine (k_FrontsE m _ a rows N _ (by exact HM.out.below (Below.refl _ _)) HFR.out HRN.out).mono ?_
      rintro e w4 ⟨va, vc, rfl, hrd, hb⟩
      have hbk : Below w3.heap.size w3 w4 := bthen (Below.refl _ _) hb
      replace m0 := below_cell hbk m0
      replace m1 := below_cell hbk m1
      replace m2 := below_cell hbk m2
      replace wd0 := below_cell hbk wd0
      replace hlt_m0 : w.heap.size < w4.heap.size := World.block_lt_of_cell? w4 _ m0
      replace hlt_wd0 : w.heap.size + 1 < w4.heap.size := World.block_lt_of_cell? w4 _ wd0
      replace HM := Lib.hid (HM.out.below hbk)
      replace HL := Lib.hid (HL.out.below hbk)
      replace B := Lib.hid (B.out.below hbk)
      replace hB := bthen hB hbk
      have FR := Lib.hid hrd
      clear hrd
      clear hbk hb
      go_wp2_with fail
      refine (k_Width m _ l la lc a y _ (by exact HM.out.below (Below.refl _ _)) (by exact HL.out.below (Below.refl _ _)) hll).mono ?_
      rintro e w5 ⟨rfl, hb⟩
      rw [HWD.out]
      have hbk : Below w4.heap.size w4 w5 := bthen (Below.refl _ _) hb
      replace m0 := below_cell hbk m0
      replace m1 := below_cell hbk m1
      replace m2 := below_cell hbk m2
      replace wd0 := below_cell hbk wd0
      replace hlt_m0 : w.heap.size < w5.heap.size := World.block_lt_of_cell? w5 _ m0
      replace hlt_wd0 : w.heap.size + 1 < w5.heap.size := World.block_lt_of_cell? w5 _ wd0
      replace HM := Lib.hid (HM.out.below hbk)
      replace HL := Lib.hid (HL.out.below hbk)
      replace B := Lib.hid (B.out.below hbk)
      replace FR := Lib.hid (FR.out.below hbk)
      replace hB := bthen hB hbk
      clear hbk hb
      go_wp2_with fail
      refine (k_Cost m _ l la lc _ (by exact HM.out.below (Below.refl _ _)) (by exact HL.out.below (Below.refl _ _)) hll).mono ?_
      rintro e w6 ⟨rfl, hb⟩
      rw [HCO.out]
      have hbk : Below w5.heap.size w5 w6 := bthen (Below.refl _ _) hb
      replace m0 := below_cell hbk m0
      replace m1 := below_cell hbk m1
      replace m2 := below_cell hbk m2
      replace wd0 := below_cell hbk wd0
      replace hlt_m0 : w.heap.size < w6.heap.size := World.block_lt_of_cell? w6 _ m0
      replace hlt_wd0 : w.heap.size + 1 < w6.heap.size := World.block_lt_of_cell? w6 _ wd0
      replace HM := Lib.hid (HM.out.below hbk)
      replace HL := Lib.hid (HL.out.below hbk)
      replace B := Lib.hid (B.out.below hbk)
      replace FR := Lib.hid (FR.out.below hbk)
      replace hB := bthen hB hbk
      clear hbk hb
      obtain ⟨b1, off1, F1, ra, rc, rfl, h1, c1, r1⟩ := FR.out.at (i := y) (by rw [HRN.out]; omega)
      have e1 : F = F1 := Option.some.inj (HRF.out.symm.trans h1)
      subst e1
      have RF := Lib.hid r1
      clear h1 r1
      clear FR
      go_wp2_with fail
      refine (c_IndexFuncP F (fun q => decide (q.2 ≤ width)) ra F.length rc _ _ rfl (by exact RF.out.below (Below.refl _ _)) (by omega) ⟨36, #[.pointer (some ⟨w.heap.size + 1, 0, none⟩)], rfl, enters_of Try.func36 (by kernel_rfl) rfl, fun W q hW => l_cheap1 width q (w.heap.size + 1) W (below_cell hW wd0)⟩).mono ?_
      rintro e w7 ⟨r, rfl, hr, hb⟩
      have hbk : Below w6.heap.size w6 w7 := bthen (Below.refl _ _) hb
      replace m0 := below_cell hbk m0
      replace m1 := below_cell hbk m1
      replace m2 := below_cell hbk m2
      replace wd0 := below_cell hbk wd0
      replace c1 := below_cell hbk c1
      replace hlt_m0 : w.heap.size < w7.heap.size := World.block_lt_of_cell? w7 _ m0
      replace hlt_wd0 : w.heap.size + 1 < w7.heap.size := World.block_lt_of_cell? w7 _ wd0
      replace HM := Lib.hid (HM.out.below hbk)
      replace HL := Lib.hid (HL.out.below hbk)
      replace B := Lib.hid (B.out.below hbk)
      replace RF := Lib.hid (RF.out.below hbk)
      replace hB := bthen hB hbk
      obtain ⟨k, q, rfl, k1, k2, k3⟩ : ∃ (k : Nat) (q : Int × Int), r = ((k : Nat) : Int) ∧ F[k]? = some q ∧ decide (q.2 ≤ width) = true ∧ ∀ j : Nat, j < k → ∀ q' : Int × Int, F[j]? = some q' → decide (q'.2 ≤ width) = false := by
        rcases hr.out with h | ⟨_, h2⟩
        · exact h
        · obtain ⟨q, hq, hp⟩ := HQ2.out
          have h3 : decide (q.2 ≤ width) = false := h2 q hq
          rw [h3] at hp; cases hp
      have HQ1 := HQ3.out k q k1 k2 k3
      have hkF : k < F.length := by
        rcases Nat.lt_or_ge k F.length with h | h
        · exact h
        · rw [List.getElem?_eq_none h] at k1; cases k1
      have HK1 := Lib.hid k1
      have HQ := Lib.hid HQ1
      have k0 : (0 : Int) ≤ (k : Int) := Int.natCast_nonneg _
      clear hr k1 k2 k3 HQ1
      clear hbk hb
      go_wp2_with fail
      refine (k_Cost m _ bl _ _ _ (by exact HM.out.below (Below.refl _ _)) (by exact B.out.below (Below.refl _ _)) LB').mono ?_
      rintro e w8 ⟨rfl, hb⟩
      rw [HC2.out]
      have hbk : Below w7.heap.size w7 w8 := bthen (Below.refl _ _) hb
      replace m0 := below_cell hbk m0
      replace m1 := below_cell hbk m1
      replace m2 := below_cell hbk m2
      replace wd0 := below_cell hbk wd0
      replace c1 := below_cell hbk c1
      replace hlt_m0 : w.heap.size < w8.heap.size := World.block_lt_of_cell? w8 _ m0
      replace hlt_wd0 : w.heap.size + 1 < w8.heap.size := World.block_lt_of_cell? w8 _ wd0
      replace HM := Lib.hid (HM.out.below hbk)
      replace HL := Lib.hid (HL.out.below hbk)
      replace B := Lib.hid (B.out.below hbk)
      replace RF := Lib.hid (RF.out.below hbk)
      replace hB := bthen hB hbk
      clear hbk hb
      go_wp2_with fail
      refine (k_Width m _ bl _ _ a y _ (by exact HM.out.below (Below.refl _ _)) (by exact B.out.below (Below.refl _ _)) LB').mono ?_
      rintro e w9 ⟨rfl, hb⟩
      rw [HW2.out]
      have hbk : Below w8.heap.size w8 w9 := bthen (Below.refl _ _) hb
      replace m0 := below_cell hbk m0
      replace m1 := below_cell hbk m1
      replace m2 := below_cell hbk m2
      replace wd0 := below_cell hbk wd0
      replace c1 := below_cell hbk c1
      replace hlt_m0 : w.heap.size < w9.heap.size := World.block_lt_of_cell? w9 _ m0
      replace hlt_wd0 : w.heap.size + 1 < w9.heap.size := World.block_lt_of_cell? w9 _ wd0
      replace HM := Lib.hid (HM.out.below hbk)
      replace HL := Lib.hid (HL.out.below hbk)
      replace B := Lib.hid (B.out.below hbk)
      replace RF := Lib.hid (RF.out.below hbk)
      replace hB := bthen hB hbk
      obtain ⟨b2, off2, q', rfl, h2, p1, p2⟩ := RF.out.atp (i := k) hkF
      have e2 : q = q' := Option.some.inj (HK1.out.symm.trans h2)
      subst e2
      rw [HQ.out] at p1
      clear h2 p2
      clear hbk hb
      go_wp2_with fail
      refine (l_before l bl x c la _ l.length bl.length lc _ false _ rfl rfl HBF.out (by exact HL.out.below (Below.refl _ _)) (by exact B.out.below (Below.refl _ _)) hll LB').mono ?_
      rintro e w10 ⟨rfl, hb⟩
      have hbk : Below w9.heap.size w9 w10 := bthen (Below.refl _ _) hb
      replace m0 := below_cell hbk m0
      replace m1 := below_cell hbk m1
      replace m2 := below_cell hbk m2
      replace wd0 := below_cell hbk wd0
      replace c1 := below_cell hbk c1
      replace p1 := below_cell hbk p1
      replace hlt_m0 : w.heap.size < w10.heap.size := World.block_lt_of_cell? w10 _ m0
      replace hlt_wd0 : w.heap.size + 1 < w10.heap.size := World.block_lt_of_cell? w10 _ wd0
      replace HM := Lib.hid (HM.out.below hbk)
      replace HL := Lib.hid (HL.out.below hbk)
      replace B := Lib.hid (B.out.below hbk)
      replace RF := Lib.hid (RF.out.below hbk)
      replace hB := bthen hB hbk
      clear hbk hb
      go_wp2
      go_ret
      exact ⟨rfl, hB⟩
set_option maxHeartbeats 8000000 in
set_option maxRecDepth 100000 in
theorem law_Cheapest (m : Mk) (mv : Value) (l : List Int) (la : Option Addr) (ln lc : Nat) (a b width : Int) (w : World) (hm : MkRd w m mv) (hln : l.length = ln) (hl : RdI w la l) (hll : ln ≤ 140737488355328) :
    Calls Try.prog 6 #[mv, .slice la ln lc, .int .i64 a, .int .i64 b, .int .i64 width] w fun e w' => e = .returned (.bool true) ∧ Below w.heap.size w w' := by
  subst hln
  have hm0 := hm
  have hl0 := hl
  have HM := Lib.hid hm
  obtain ⟨ka, kc, oa, oc, rfl, _⟩ := hm
  have HL := Lib.hid hl
  clear hl
  cases hask : askedB m l [a, b] with
  | false =>
    have HASK := Lib.hid hask
    clear hask hm0 hl0
    go_enter Try.func6, Try.ntmps6
    go_wp2_with fail
    refine (l_sane _).mono ?_
    rintro e w1 ⟨rfl, hb⟩
    have hbk : Below w.heap.size w w1 := bthen (bal (bal (Below.refl _ _) (.cells #[.int .i64 m.n, .slice ka m.ks.length kc, .slice oa m.os.length oc] 24)) (.cells #[.int .i64 width] 3)) hb
    have m0 := below_cell hb (cal (show (w.alloc (.cells #[.int .i64 m.n, .slice ka m.ks.length kc, .slice oa m.os.length oc] 24)).cell? ⟨w.heap.size, 0, none⟩ = some (.int .i64 m.n) from by simp) (.cells #[.int .i64 width] 3))
    have m1 := below_cell hb (cal (show (w.alloc (.cells #[.int .i64 m.n, .slice ka m.ks.length kc, .slice oa m.os.length oc] 24)).cell? ⟨w.heap.size, 1, none⟩ = some (.slice ka m.ks.length kc) from by simp) (.cells #[.int .i64 width] 3))
    have m2 := below_cell hb (cal (show (w.alloc (.cells #[.int .i64 m.n, .slice ka m.ks.length kc, .slice oa m.os.length oc] 24)).cell? ⟨w.heap.size, 2, none⟩ = some (.slice oa m.os.length oc) from by simp) (.cells #[.int .i64 width] 3))
    have wd0 := below_cell hb (show ((w.alloc (.cells #[.int .i64 m.n, .slice ka m.ks.length kc, .slice oa m.os.length oc] 24)).alloc (.cells #[.int .i64 width] 3)).cell? ⟨w.heap.size + 1, 0, none⟩ = some (.int .i64 width) from by simp)
    have hlt_m0 : w.heap.size < w1.heap.size := World.block_lt_of_cell? w1 _ m0
    have hlt_wd0 : w.heap.size + 1 < w1.heap.size := World.block_lt_of_cell? w1 _ wd0
    replace HM := Lib.hid (HM.out.below hbk)
    replace HL := Lib.hid (HL.out.below hbk)
    have hB := hbk
    clear hbk hb
    go_wp2_with fail
    refine (l_asked m _ l [a, b] la _ lc _ 2 _ (by exact HM.out.below (bal (Below.refl _ _) (.cells #[.int .i64 a, .int .i64 b] 3))) (by exact HL.out.below (bal (Below.refl _ _) (.cells #[.int .i64 a, .int .i64 b] 3))) hll (by simpa using rdI_new w1 [a, b] 3 : RdI _ (some ⟨w1.heap.size, 0, none⟩) [a, b]) rfl (by decide)).mono ?_
    rintro e w2 ⟨rfl, hb⟩
    rw [HASK.out]
    have hbk : Below w1.heap.size w1 w2 := bthen (bal (Below.refl _ _) (.cells #[.int .i64 a, .int .i64 b] 3)) hb
    replace m0 := below_cell hbk m0
    replace m1 := below_cell hbk m1
    replace m2 := below_cell hbk m2
    replace wd0 := below_cell hbk wd0
    replace hlt_m0 : w.heap.size < w2.heap.size := World.block_lt_of_cell? w2 _ m0
    replace hlt_wd0 : w.heap.size + 1 < w2.heap.size := World.block_lt_of_cell? w2 _ wd0
    replace HM := Lib.hid (HM.out.below hbk)
    replace HL := Lib.hid (HL.out.below hbk)
    replace hB := bthen hB hbk
    clear hbk hb
    go_wp2
    go_ret
    exact ⟨rfl, hB⟩
  | true =>
    have HASK := Lib.hid hask
    by_cases g0 : width < 0
    · clear hask hm0 hl0
      go_enter Try.func6, Try.ntmps6
      go_wp2_with fail
      refine (l_sane _).mono ?_
      rintro e w1 ⟨rfl, hb⟩
      have hbk : Below w.heap.size w w1 := bthen (bal (bal (Below.refl _ _) (.cells #[.int .i64 m.n, .slice ka m.ks.length kc, .slice oa m.os.length oc] 24)) (.cells #[.int .i64 width] 3)) hb
      have m0 := below_cell hb (cal (show (w.alloc (.cells #[.int .i64 m.n, .slice ka m.ks.length kc, .slice oa m.os.length oc] 24)).cell? ⟨w.heap.size, 0, none⟩ = some (.int .i64 m.n) from by simp) (.cells #[.int .i64 width] 3))
      have m1 := below_cell hb (cal (show (w.alloc (.cells #[.int .i64 m.n, .slice ka m.ks.length kc, .slice oa m.os.length oc] 24)).cell? ⟨w.heap.size, 1, none⟩ = some (.slice ka m.ks.length kc) from by simp) (.cells #[.int .i64 width] 3))
      have m2 := below_cell hb (cal (show (w.alloc (.cells #[.int .i64 m.n, .slice ka m.ks.length kc, .slice oa m.os.length oc] 24)).cell? ⟨w.heap.size, 2, none⟩ = some (.slice oa m.os.length oc) from by simp) (.cells #[.int .i64 width] 3))
      have wd0 := below_cell hb (show ((w.alloc (.cells #[.int .i64 m.n, .slice ka m.ks.length kc, .slice oa m.os.length oc] 24)).alloc (.cells #[.int .i64 width] 3)).cell? ⟨w.heap.size + 1, 0, none⟩ = some (.int .i64 width) from by simp)
      have hlt_m0 : w.heap.size < w1.heap.size := World.block_lt_of_cell? w1 _ m0
      have hlt_wd0 : w.heap.size + 1 < w1.heap.size := World.block_lt_of_cell? w1 _ wd0
      replace HM := Lib.hid (HM.out.below hbk)
      replace HL := Lib.hid (HL.out.below hbk)
      have hB := hbk
      clear hbk hb
      go_wp2_with fail
      refine (l_asked m _ l [a, b] la _ lc _ 2 _ (by exact HM.out.below (bal (Below.refl _ _) (.cells #[.int .i64 a, .int .i64 b] 3))) (by exact HL.out.below (bal (Below.refl _ _) (.cells #[.int .i64 a, .int .i64 b] 3))) hll (by simpa using rdI_new w1 [a, b] 3 : RdI _ (some ⟨w1.heap.size, 0, none⟩) [a, b]) rfl (by decide)).mono ?_
      rintro e w2 ⟨rfl, hb⟩
      rw [HASK.out]
      have hbk : Below w1.heap.size w1 w2 := bthen (bal (Below.refl _ _) (.cells #[.int .i64 a, .int .i64 b] 3)) hb
      replace m0 := below_cell hbk m0
      replace m1 := below_cell hbk m1
      replace m2 := below_cell hbk m2
      replace wd0 := below_cell hbk wd0
      replace hlt_m0 : w.heap.size < w2.heap.size := World.block_lt_of_cell? w2 _ m0
      replace hlt_wd0 : w.heap.size + 1 < w2.heap.size := World.block_lt_of_cell? w2 _ wd0
      replace HM := Lib.hid (HM.out.below hbk)
      replace HL := Lib.hid (HL.out.below hbk)
      replace hB := bthen hB hbk
      clear hbk hb
      go_wp2
      go_ret
      exact ⟨rfl, hB⟩
    by_cases g1 : 16777216 < width
    · clear hask hm0 hl0
      have h0' : 0 ≤ width := by omega
      clear g0
      go_enter Try.func6, Try.ntmps6
      go_wp2_with fail
      refine (l_sane _).mono ?_
      rintro e w1 ⟨rfl, hb⟩
      have hbk : Below w.heap.size w w1 := bthen (bal (bal (Below.refl _ _) (.cells #[.int .i64 m.n, .slice ka m.ks.length kc, .slice oa m.os.length oc] 24)) (.cells #[.int .i64 width] 3)) hb
      have m0 := below_cell hb (cal (show (w.alloc (.cells #[.int .i64 m.n, .slice ka m.ks.length kc, .slice oa m.os.length oc] 24)).cell? ⟨w.heap.size, 0, none⟩ = some (.int .i64 m.n) from by simp) (.cells #[.int .i64 width] 3))
      have m1 := below_cell hb (cal (show (w.alloc (.cells #[.int .i64 m.n, .slice ka m.ks.length kc, .slice oa m.os.length oc] 24)).cell? ⟨w.heap.size, 1, none⟩ = some (.slice ka m.ks.length kc) from by simp) (.cells #[.int .i64 width] 3))
      have m2 := below_cell hb (cal (show (w.alloc (.cells #[.int .i64 m.n, .slice ka m.ks.length kc, .slice oa m.os.length oc] 24)).cell? ⟨w.heap.size, 2, none⟩ = some (.slice oa m.os.length oc) from by simp) (.cells #[.int .i64 width] 3))
      have wd0 := below_cell hb (show ((w.alloc (.cells #[.int .i64 m.n, .slice ka m.ks.length kc, .slice oa m.os.length oc] 24)).alloc (.cells #[.int .i64 width] 3)).cell? ⟨w.heap.size + 1, 0, none⟩ = some (.int .i64 width) from by simp)
      have hlt_m0 : w.heap.size < w1.heap.size := World.block_lt_of_cell? w1 _ m0
      have hlt_wd0 : w.heap.size + 1 < w1.heap.size := World.block_lt_of_cell? w1 _ wd0
      replace HM := Lib.hid (HM.out.below hbk)
      replace HL := Lib.hid (HL.out.below hbk)
      have hB := hbk
      clear hbk hb
      go_wp2_with fail
      refine (l_asked m _ l [a, b] la _ lc _ 2 _ (by exact HM.out.below (bal (Below.refl _ _) (.cells #[.int .i64 a, .int .i64 b] 3))) (by exact HL.out.below (bal (Below.refl _ _) (.cells #[.int .i64 a, .int .i64 b] 3))) hll (by simpa using rdI_new w1 [a, b] 3 : RdI _ (some ⟨w1.heap.size, 0, none⟩) [a, b]) rfl (by decide)).mono ?_
      rintro e w2 ⟨rfl, hb⟩
      rw [HASK.out]
      have hbk : Below w1.heap.size w1 w2 := bthen (bal (Below.refl _ _) (.cells #[.int .i64 a, .int .i64 b] 3)) hb
      replace m0 := below_cell hbk m0
      replace m1 := below_cell hbk m1
      replace m2 := below_cell hbk m2
      replace wd0 := below_cell hbk wd0
      replace hlt_m0 : w.heap.size < w2.heap.size := World.block_lt_of_cell? w2 _ m0
      replace hlt_wd0 : w.heap.size + 1 < w2.heap.size := World.block_lt_of_cell? w2 _ wd0
      replace HM := Lib.hid (HM.out.below hbk)
      replace HL := Lib.hid (HL.out.below hbk)
      replace hB := bthen hB hbk
      clear hbk hb
      go_wp2
      go_ret
      exact ⟨rfl, hB⟩
    have h0' : 0 ≤ width := by omega
    have h1' : width ≤ 16777216 := by omega
    obtain ⟨_, _, hok, _, hcl⟩ := asked_yes hask
    have hb' := clock_bd hcl b (by simp)
    have n2 := (okM hok).n2
    obtain ⟨y, rfl⟩ := Int.eq_ofNat_of_zero_le hb'.1
    have tN : (((m.n.toNat : Nat) : Int) != m.n) = false := by rw [bne_eq_false_iff_eq]; omega
    cases hs : leastS m.os (fun s => decide (wdS m s a (y : Int) ≤ width)) with
    | none =>
      obtain ⟨rows, F, n, kn, x, e1, e2, e3, e4, q1, hRN, hRF, hFL, q2⟩ := cheap_none hask h0' h1' hs
      exact cheap_no m _ l la lc a width y w hm0 hl0 hll hask h0' h1' m.n.toNat (by omega) rows F n x kn tN e2 e3 e4 hRN hRF hFL e1 q1 q2
    | some s =>
      obtain ⟨rows, F, n, kn, x, bl, c, z, e1, e2, e3, e4, hRN, hRF, hFL, e5, e6, q1, LB', q2, q3, q4⟩ := cheap_some hask h0' h1' hs
      exact cheap_yes m _ l la lc a width y w hm0 hl0 hll hask h0' h1' m.n.toNat (by omega) rows F n x kn tN e2 e3 e4 hRN hRF hFL bl z c e1 e5 e6 q1 LB' q2 q3 q4
end Go.Proofs.Ytjdldmecjhddnaa
