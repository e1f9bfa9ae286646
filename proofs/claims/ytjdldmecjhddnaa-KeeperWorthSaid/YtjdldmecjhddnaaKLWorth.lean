/- KeeperWorth: what it computes is true. -/
import Derived.Test.YtjdldmecjhddnaaK18
import Derived.Test.YtjdldmecjhddnaaKM7
import Derived.Test.YtjdldmecjhddnaaKA3
import Derived.Test.YtjdldmecjhddnaaKLWorthA
import Derived.Test.YtjdldmecjhddnaaKLWorthB
import Derived.Test.YtjdldmecjhddnaaKLWorthC
import Derived.Test.YtjdldmecjhddnaaKLWorthD
namespace Go.Proofs.Ytjdldmecjhddnaa
open Go.RowKit
set_option linter.unusedVariables false
set_option linter.unusedSimpArgs false

set_option maxHeartbeats 8000000 in
set_option maxRecDepth 100000 in
theorem law_Worth (m : Mk) (mv : Value) (a b width offer : Int) (w : World) (hm : MkRd w m mv) :
    Calls Try.prog 10 #[mv, .int .i64 a, .int .i64 b, .int .i64 width, .int .i64 offer] w fun e w' => e = .returned (.bool true) ∧ Below w.heap.size w w' := by
  have hm0 := hm
  have HM := Lib.hid hm
  obtain ⟨ka, kc, oa, oc, rfl, _⟩ := hm
  cases hask : askedB m [] [a, b] with
  | false =>
    have HASK := Lib.hid hask
    clear hask hm0
    go_enter Try.func10, Try.ntmps10
    go_wp2_with fail
    refine (l_sane _).mono ?_
    rintro e w1 ⟨rfl, hb⟩
    have hbk : Below w.heap.size w w1 := bthen (bal (Below.refl _ _) (.cells #[.int .i64 m.n, .slice ka m.ks.length kc, .slice oa m.os.length oc] 24)) hb
    have m0 := below_cell hb (show (w.alloc (.cells #[.int .i64 m.n, .slice ka m.ks.length kc, .slice oa m.os.length oc] 24)).cell? ⟨w.heap.size, 0, none⟩ = some (.int .i64 m.n) from by simp)
    have m1 := below_cell hb (show (w.alloc (.cells #[.int .i64 m.n, .slice ka m.ks.length kc, .slice oa m.os.length oc] 24)).cell? ⟨w.heap.size, 1, none⟩ = some (.slice ka m.ks.length kc) from by simp)
    have m2 := below_cell hb (show (w.alloc (.cells #[.int .i64 m.n, .slice ka m.ks.length kc, .slice oa m.os.length oc] 24)).cell? ⟨w.heap.size, 2, none⟩ = some (.slice oa m.os.length oc) from by simp)
    have hlt_m0 : w.heap.size < w1.heap.size := World.block_lt_of_cell? w1 _ m0
    replace HM := Lib.hid (HM.out.below hbk)
    have hB := hbk
    clear hbk hb
    go_wp2_with fail
    refine (l_asked m _ [] [a, b] none _ 0 _ 2 _ (by exact HM.out.below (bal (Below.refl _ _) (.cells #[.int .i64 a, .int .i64 b] 3))) Rd.nil (by simp) (by simpa using rdI_new w1 [a, b] 3 : RdI _ (some ⟨w1.heap.size, 0, none⟩) [a, b]) rfl (by decide)).mono ?_
    rintro e w2 ⟨rfl, hb⟩
    rw [HASK.out]
    have hbk : Below w1.heap.size w1 w2 := bthen (bal (Below.refl _ _) (.cells #[.int .i64 a, .int .i64 b] 3)) hb
    replace m0 := below_cell hbk m0
    replace m1 := below_cell hbk m1
    replace m2 := below_cell hbk m2
    replace hlt_m0 : w.heap.size < w2.heap.size := World.block_lt_of_cell? w2 _ m0
    replace HM := Lib.hid (HM.out.below hbk)
    replace hB := bthen hB hbk
    clear hbk hb
    go_wp2
    go_ret
    exact ⟨rfl, hB⟩
  | true =>
    have HASK := Lib.hid hask
    by_cases g0 : width < 0
    · clear hask hm0
      go_enter Try.func10, Try.ntmps10
      go_wp2_with fail
      refine (l_sane _).mono ?_
      rintro e w1 ⟨rfl, hb⟩
      have hbk : Below w.heap.size w w1 := bthen (bal (Below.refl _ _) (.cells #[.int .i64 m.n, .slice ka m.ks.length kc, .slice oa m.os.length oc] 24)) hb
      have m0 := below_cell hb (show (w.alloc (.cells #[.int .i64 m.n, .slice ka m.ks.length kc, .slice oa m.os.length oc] 24)).cell? ⟨w.heap.size, 0, none⟩ = some (.int .i64 m.n) from by simp)
      have m1 := below_cell hb (show (w.alloc (.cells #[.int .i64 m.n, .slice ka m.ks.length kc, .slice oa m.os.length oc] 24)).cell? ⟨w.heap.size, 1, none⟩ = some (.slice ka m.ks.length kc) from by simp)
      have m2 := below_cell hb (show (w.alloc (.cells #[.int .i64 m.n, .slice ka m.ks.length kc, .slice oa m.os.length oc] 24)).cell? ⟨w.heap.size, 2, none⟩ = some (.slice oa m.os.length oc) from by simp)
      have hlt_m0 : w.heap.size < w1.heap.size := World.block_lt_of_cell? w1 _ m0
      replace HM := Lib.hid (HM.out.below hbk)
      have hB := hbk
      clear hbk hb
      go_wp2_with fail
      refine (l_asked m _ [] [a, b] none _ 0 _ 2 _ (by exact HM.out.below (bal (Below.refl _ _) (.cells #[.int .i64 a, .int .i64 b] 3))) Rd.nil (by simp) (by simpa using rdI_new w1 [a, b] 3 : RdI _ (some ⟨w1.heap.size, 0, none⟩) [a, b]) rfl (by decide)).mono ?_
      rintro e w2 ⟨rfl, hb⟩
      rw [HASK.out]
      have hbk : Below w1.heap.size w1 w2 := bthen (bal (Below.refl _ _) (.cells #[.int .i64 a, .int .i64 b] 3)) hb
      replace m0 := below_cell hbk m0
      replace m1 := below_cell hbk m1
      replace m2 := below_cell hbk m2
      replace hlt_m0 : w.heap.size < w2.heap.size := World.block_lt_of_cell? w2 _ m0
      replace HM := Lib.hid (HM.out.below hbk)
      replace hB := bthen hB hbk
      clear hbk hb
      go_wp2
      go_ret
      exact ⟨rfl, hB⟩
    by_cases g1 : 16777216 < width
    · clear hask hm0
      have h0' : 0 ≤ width := by omega
      clear g0
      go_enter Try.func10, Try.ntmps10
      go_wp2_with fail
      refine (l_sane _).mono ?_
      rintro e w1 ⟨rfl, hb⟩
      have hbk : Below w.heap.size w w1 := bthen (bal (Below.refl _ _) (.cells #[.int .i64 m.n, .slice ka m.ks.length kc, .slice oa m.os.length oc] 24)) hb
      have m0 := below_cell hb (show (w.alloc (.cells #[.int .i64 m.n, .slice ka m.ks.length kc, .slice oa m.os.length oc] 24)).cell? ⟨w.heap.size, 0, none⟩ = some (.int .i64 m.n) from by simp)
      have m1 := below_cell hb (show (w.alloc (.cells #[.int .i64 m.n, .slice ka m.ks.length kc, .slice oa m.os.length oc] 24)).cell? ⟨w.heap.size, 1, none⟩ = some (.slice ka m.ks.length kc) from by simp)
      have m2 := below_cell hb (show (w.alloc (.cells #[.int .i64 m.n, .slice ka m.ks.length kc, .slice oa m.os.length oc] 24)).cell? ⟨w.heap.size, 2, none⟩ = some (.slice oa m.os.length oc) from by simp)
      have hlt_m0 : w.heap.size < w1.heap.size := World.block_lt_of_cell? w1 _ m0
      replace HM := Lib.hid (HM.out.below hbk)
      have hB := hbk
      clear hbk hb
      go_wp2_with fail
      refine (l_asked m _ [] [a, b] none _ 0 _ 2 _ (by exact HM.out.below (bal (Below.refl _ _) (.cells #[.int .i64 a, .int .i64 b] 3))) Rd.nil (by simp) (by simpa using rdI_new w1 [a, b] 3 : RdI _ (some ⟨w1.heap.size, 0, none⟩) [a, b]) rfl (by decide)).mono ?_
      rintro e w2 ⟨rfl, hb⟩
      rw [HASK.out]
      have hbk : Below w1.heap.size w1 w2 := bthen (bal (Below.refl _ _) (.cells #[.int .i64 a, .int .i64 b] 3)) hb
      replace m0 := below_cell hbk m0
      replace m1 := below_cell hbk m1
      replace m2 := below_cell hbk m2
      replace hlt_m0 : w.heap.size < w2.heap.size := World.block_lt_of_cell? w2 _ m0
      replace HM := Lib.hid (HM.out.below hbk)
      replace hB := bthen hB hbk
      clear hbk hb
      go_wp2
      go_ret
      exact ⟨rfl, hB⟩
    by_cases g2 : offer < 0
    · clear hask hm0
      have h0' : 0 ≤ width := by omega
      have h1' : width ≤ 16777216 := by omega
      clear g0
      clear g1
      go_enter Try.func10, Try.ntmps10
      go_wp2_with fail
      refine (l_sane _).mono ?_
      rintro e w1 ⟨rfl, hb⟩
      have hbk : Below w.heap.size w w1 := bthen (bal (Below.refl _ _) (.cells #[.int .i64 m.n, .slice ka m.ks.length kc, .slice oa m.os.length oc] 24)) hb
      have m0 := below_cell hb (show (w.alloc (.cells #[.int .i64 m.n, .slice ka m.ks.length kc, .slice oa m.os.length oc] 24)).cell? ⟨w.heap.size, 0, none⟩ = some (.int .i64 m.n) from by simp)
      have m1 := below_cell hb (show (w.alloc (.cells #[.int .i64 m.n, .slice ka m.ks.length kc, .slice oa m.os.length oc] 24)).cell? ⟨w.heap.size, 1, none⟩ = some (.slice ka m.ks.length kc) from by simp)
      have m2 := below_cell hb (show (w.alloc (.cells #[.int .i64 m.n, .slice ka m.ks.length kc, .slice oa m.os.length oc] 24)).cell? ⟨w.heap.size, 2, none⟩ = some (.slice oa m.os.length oc) from by simp)
      have hlt_m0 : w.heap.size < w1.heap.size := World.block_lt_of_cell? w1 _ m0
      replace HM := Lib.hid (HM.out.below hbk)
      have hB := hbk
      clear hbk hb
      go_wp2_with fail
      refine (l_asked m _ [] [a, b] none _ 0 _ 2 _ (by exact HM.out.below (bal (Below.refl _ _) (.cells #[.int .i64 a, .int .i64 b] 3))) Rd.nil (by simp) (by simpa using rdI_new w1 [a, b] 3 : RdI _ (some ⟨w1.heap.size, 0, none⟩) [a, b]) rfl (by decide)).mono ?_
      rintro e w2 ⟨rfl, hb⟩
      rw [HASK.out]
      have hbk : Below w1.heap.size w1 w2 := bthen (bal (Below.refl _ _) (.cells #[.int .i64 a, .int .i64 b] 3)) hb
      replace m0 := below_cell hbk m0
      replace m1 := below_cell hbk m1
      replace m2 := below_cell hbk m2
      replace hlt_m0 : w.heap.size < w2.heap.size := World.block_lt_of_cell? w2 _ m0
      replace HM := Lib.hid (HM.out.below hbk)
      replace hB := bthen hB hbk
      clear hbk hb
      go_wp2
      go_ret
      exact ⟨rfl, hB⟩
    by_cases g3 : (m.os.length : Int) ≤ offer
    · clear hask hm0
      have h0' : 0 ≤ width := by omega
      have h1' : width ≤ 16777216 := by omega
      have h2' : 0 ≤ offer := by omega
      clear g0
      clear g1
      clear g2
      go_enter Try.func10, Try.ntmps10
      go_wp2_with fail
      refine (l_sane _).mono ?_
      rintro e w1 ⟨rfl, hb⟩
      have hbk : Below w.heap.size w w1 := bthen (bal (Below.refl _ _) (.cells #[.int .i64 m.n, .slice ka m.ks.length kc, .slice oa m.os.length oc] 24)) hb
      have m0 := below_cell hb (show (w.alloc (.cells #[.int .i64 m.n, .slice ka m.ks.length kc, .slice oa m.os.length oc] 24)).cell? ⟨w.heap.size, 0, none⟩ = some (.int .i64 m.n) from by simp)
      have m1 := below_cell hb (show (w.alloc (.cells #[.int .i64 m.n, .slice ka m.ks.length kc, .slice oa m.os.length oc] 24)).cell? ⟨w.heap.size, 1, none⟩ = some (.slice ka m.ks.length kc) from by simp)
      have m2 := below_cell hb (show (w.alloc (.cells #[.int .i64 m.n, .slice ka m.ks.length kc, .slice oa m.os.length oc] 24)).cell? ⟨w.heap.size, 2, none⟩ = some (.slice oa m.os.length oc) from by simp)
      have hlt_m0 : w.heap.size < w1.heap.size := World.block_lt_of_cell? w1 _ m0
      replace HM := Lib.hid (HM.out.below hbk)
      have hB := hbk
      clear hbk hb
      go_wp2_with fail
      refine (l_asked m _ [] [a, b] none _ 0 _ 2 _ (by exact HM.out.below (bal (Below.refl _ _) (.cells #[.int .i64 a, .int .i64 b] 3))) Rd.nil (by simp) (by simpa using rdI_new w1 [a, b] 3 : RdI _ (some ⟨w1.heap.size, 0, none⟩) [a, b]) rfl (by decide)).mono ?_
      rintro e w2 ⟨rfl, hb⟩
      rw [HASK.out]
      have hbk : Below w1.heap.size w1 w2 := bthen (bal (Below.refl _ _) (.cells #[.int .i64 a, .int .i64 b] 3)) hb
      replace m0 := below_cell hbk m0
      replace m1 := below_cell hbk m1
      replace m2 := below_cell hbk m2
      replace hlt_m0 : w.heap.size < w2.heap.size := World.block_lt_of_cell? w2 _ m0
      replace HM := Lib.hid (HM.out.below hbk)
      replace hB := bthen hB hbk
      clear hbk hb
      go_wp2
      go_ret
      exact ⟨rfl, hB⟩
    have h0' : 0 ≤ width := by omega
    have h1' : width ≤ 16777216 := by omega
    obtain ⟨x, rfl⟩ := Int.eq_ofNat_of_zero_le (show 0 ≤ offer by omega)
    have x1 : (x : Int) < m.os.length := by omega
    have x0 : (0 : Int) ≤ (x : Int) := Int.natCast_nonneg _
    have hx : x < m.os.length := by omega
    cases hs : leastS m.os (fun s => decide (wdS m s a b ≤ width)) with
    | some s =>
      obtain ⟨bl, nl, n, bd, cin, c, w1, w2, w2b, e1, e2, e3, ci, cn, LB', LN, k1, k2, k3, e4, e5, q1, c0, c1, e6, q2⟩ := worth_some hask h0' h1' hx hs
      by_cases hc : c = 0
      · cases bd with
        | false =>
          obtain rfl := k1 rfl
          exact worth_A0 m _ a b width x w hm0 hask h0' h1' x0 x1 bl nl n c w1 w2 e1 e2 e3 ci cn LB' LN trivial e4 e5 q1 hc
        | true =>
          cases cin with
          | true =>
            have := k2 rfl rfl
            by_cases hn : n = 0
            · exact worth_B0 m _ a b width x w hm0 hask h0' h1' x0 x1 bl nl n c w1 w2 e1 e2 e3 ci cn LB' LN hn e4 e5 q1 hc
            · exact worth_C0 m _ a b width x w hm0 hask h0' h1' x0 x1 bl nl n c w1 w2 e1 e2 e3 ci cn LB' LN (by omega) e4 e5 q1 hc
          | false => exact worth_D0 m _ a b width x w hm0 hask h0' h1' x0 x1 bl nl n c w1 w2 e1 e2 e3 ci cn LB' LN (k3 rfl rfl) e4 e5 q1 hc
      · cases bd with
        | false =>
          obtain rfl := k1 rfl
          exact worth_A1 m _ a b width x w hm0 hask h0' h1' x0 x1 bl nl n c w1 w2 e1 e2 e3 ci cn LB' LN trivial e4 e5 q1 w2b c0 c1 hc (e6 hc) q2
        | true =>
          cases cin with
          | true =>
            have := k2 rfl rfl
            by_cases hn : n = 0
            · exact worth_B1 m _ a b width x w hm0 hask h0' h1' x0 x1 bl nl n c w1 w2 e1 e2 e3 ci cn LB' LN hn e4 e5 q1 w2b c0 c1 hc (e6 hc) q2
            · exact worth_C1 m _ a b width x w hm0 hask h0' h1' x0 x1 bl nl n c w1 w2 e1 e2 e3 ci cn LB' LN (by omega) e4 e5 q1 w2b c0 c1 hc (e6 hc) q2
          | false => exact worth_D1 m _ a b width x w hm0 hask h0' h1' x0 x1 bl nl n c w1 w2 e1 e2 e3 ci cn LB' LN (k3 rfl rfl) e4 e5 q1 w2b c0 c1 hc (e6 hc) q2
    | none =>
      obtain ⟨e1, e2, e3⟩ := worth_none hask h0' h1' hx hs
      have HBE := Lib.hid e1
      have HNE := Lib.hid e2
      have HPR := Lib.hid e3
      clear hask hs hm0 e1 e2 e3 g0 g1 g2 g3
      go_enter Try.func10, Try.ntmps10
      go_wp2_with fail
      refine (l_sane _).mono ?_
      rintro e w1 ⟨rfl, hb⟩
      have hbk : Below w.heap.size w w1 := bthen (bal (Below.refl _ _) (.cells #[.int .i64 m.n, .slice ka m.ks.length kc, .slice oa m.os.length oc] 24)) hb
      have m0 := below_cell hb (show (w.alloc (.cells #[.int .i64 m.n, .slice ka m.ks.length kc, .slice oa m.os.length oc] 24)).cell? ⟨w.heap.size, 0, none⟩ = some (.int .i64 m.n) from by simp)
      have m1 := below_cell hb (show (w.alloc (.cells #[.int .i64 m.n, .slice ka m.ks.length kc, .slice oa m.os.length oc] 24)).cell? ⟨w.heap.size, 1, none⟩ = some (.slice ka m.ks.length kc) from by simp)
      have m2 := below_cell hb (show (w.alloc (.cells #[.int .i64 m.n, .slice ka m.ks.length kc, .slice oa m.os.length oc] 24)).cell? ⟨w.heap.size, 2, none⟩ = some (.slice oa m.os.length oc) from by simp)
      have hlt_m0 : w.heap.size < w1.heap.size := World.block_lt_of_cell? w1 _ m0
      replace HM := Lib.hid (HM.out.below hbk)
      have hB := hbk
      clear hbk hb
      go_wp2_with fail
      refine (l_asked m _ [] [a, b] none _ 0 _ 2 _ (by exact HM.out.below (bal (Below.refl _ _) (.cells #[.int .i64 a, .int .i64 b] 3))) Rd.nil (by simp) (by simpa using rdI_new w1 [a, b] 3 : RdI _ (some ⟨w1.heap.size, 0, none⟩) [a, b]) rfl (by decide)).mono ?_
      rintro e w2 ⟨rfl, hb⟩
      rw [HASK.out]
      have hbk : Below w1.heap.size w1 w2 := bthen (bal (Below.refl _ _) (.cells #[.int .i64 a, .int .i64 b] 3)) hb
      replace m0 := below_cell hbk m0
      replace m1 := below_cell hbk m1
      replace m2 := below_cell hbk m2
      replace hlt_m0 : w.heap.size < w2.heap.size := World.block_lt_of_cell? w2 _ m0
      replace HM := Lib.hid (HM.out.below hbk)
      replace hB := bthen hB hbk
      clear hbk hb
      go_wp2_with fail
      refine (k_Best m _ a b width _ (by exact HM.out.below (Below.refl _ _))).mono ?_
      rintro e w3 ⟨v, rfl, hown, hb⟩
      rw [HBE.out] at hown ⊢
      have hbk : Below w2.heap.size w2 w3 := bthen (Below.refl _ _) hb
      replace m0 := below_cell hbk m0
      replace m1 := below_cell hbk m1
      replace m2 := below_cell hbk m2
      replace hlt_m0 : w.heap.size < w3.heap.size := World.block_lt_of_cell? w3 _ m0
      replace HM := Lib.hid (HM.out.below hbk)
      replace hB := bthen hB hbk
      obtain ⟨Ba, Bc, rfl, B⟩ := own_rdI hown
      replace B := Lib.hid B
      clear hown
      clear hbk hb
      go_wp2_with fail
      refine (k_Needed m _ a b width _ (by exact HM.out.below (Below.refl _ _))).mono ?_
      rintro e w4 ⟨v, rfl, hown, hb⟩
      rw [HNE.out] at hown ⊢
      have hbk : Below w3.heap.size w3 w4 := bthen (Below.refl _ _) hb
      replace m0 := below_cell hbk m0
      replace m1 := below_cell hbk m1
      replace m2 := below_cell hbk m2
      replace hlt_m0 : w.heap.size < w4.heap.size := World.block_lt_of_cell? w4 _ m0
      replace HM := Lib.hid (HM.out.below hbk)
      replace B := Lib.hid (B.out.below hbk)
      replace hB := bthen hB hbk
      obtain ⟨Da, Dc, rfl, D⟩ := own_rdI hown
      replace D := Lib.hid D
      clear hown
      clear hbk hb
      go_wp2_with fail
      refine (k_Price m _ a b width x _ (by exact HM.out.below (Below.refl _ _))).mono ?_
      rintro e w5 ⟨rfl, hb⟩
      rw [HPR.out]
      have hbk : Below w4.heap.size w4 w5 := bthen (Below.refl _ _) hb
      replace m0 := below_cell hbk m0
      replace m1 := below_cell hbk m1
      replace m2 := below_cell hbk m2
      replace hlt_m0 : w.heap.size < w5.heap.size := World.block_lt_of_cell? w5 _ m0
      replace HM := Lib.hid (HM.out.below hbk)
      replace B := Lib.hid (B.out.below hbk)
      replace D := Lib.hid (D.out.below hbk)
      replace hB := bthen hB hbk
      clear hbk hb
      go_wp2
      go_ret
      exact ⟨rfl, hB⟩
end Go.Proofs.Ytjdldmecjhddnaa
