/- KeeperNamed holds: for every input the law returns true, and the input reads as it did. -/
import Derived.Test.YtjdldmecjhddnaaK18
import Derived.Test.YtjdldmecjhddnaaKRen
import Derived.Test.YtjdldmecjhddnaaKClo
import Derived.Test.YtjdldmecjhddnaaKLNamedA
import Derived.Test.YtjdldmecjhddnaaKLNamedB
import Derived.Test.YtjdldmecjhddnaaRows
import Derived.Test.YtjdldmecjhddnaaKRow
import Derived.WalkKit
import Derived.ProofKit
import Derived.OpenShut
import Derived.ShutString
import Derived.ChangeOld
import Derived.Below
import Derived.SizedLaws
namespace Go.Proofs.Ytjdldmecjhddnaa
open Go.RowKit
set_option linter.unusedVariables false
set_option linter.unusedSimpArgs false

set_option maxHeartbeats 8000000 in
set_option maxRecDepth 100000 in
theorem law_Named (m : Mk) (mv : Value) (l : List Int) (la : Option Addr) (ln lc : Nat) (x y b width : Int) (w : World) (hm : MkRd w m mv) (hln : l.length = ln) (hl : RdI w la l) (hll : ln ≤ 140737488355328) :
    Calls Try.prog 5 #[mv, .slice la ln lc, .int .i64 x, .int .i64 y, .int .i64 b, .int .i64 width] w fun e w' => e = .returned (.bool true) ∧ Below w.heap.size w w' := by
  subst hln
  have hm0 := hm
  have hl0 := hl
  have HM := Lib.hid hm
  obtain ⟨ka, kc, oa, oc, rfl, _⟩ := hm
  have HL := Lib.hid hl
  clear hl
  cases hask : askedB m l [x, y, b] with
  | false =>
    have HASK := Lib.hid hask
    clear hask hm0 hl0
    go_enter Try.func5, Try.ntmps5
    go_wp2_with fail
    refine (l_sane _).mono ?_
    rintro e w1 ⟨rfl, hb⟩
    have hbk : Below w.heap.size w w1 := bthen (bal (Below.refl _ _) (.cells #[.int .i64 m.n, .slice ka m.ks.length kc, .slice oa m.os.length oc] 24)) hb
    have m0 := below_cell hb (show (w.alloc (.cells #[.int .i64 m.n, .slice ka m.ks.length kc, .slice oa m.os.length oc] 24)).cell? ⟨w.heap.size, 0, none⟩ = some (.int .i64 m.n) from by simp)
    have m1 := below_cell hb (show (w.alloc (.cells #[.int .i64 m.n, .slice ka m.ks.length kc, .slice oa m.os.length oc] 24)).cell? ⟨w.heap.size, 1, none⟩ = some (.slice ka m.ks.length kc) from by simp)
    have m2 := below_cell hb (show (w.alloc (.cells #[.int .i64 m.n, .slice ka m.ks.length kc, .slice oa m.os.length oc] 24)).cell? ⟨w.heap.size, 2, none⟩ = some (.slice oa m.os.length oc) from by simp)
    have hlt_m0 : w.heap.size < w1.heap.size := World.block_lt_of_cell? w1 _ m0
    replace HM := Lib.hid (HM.out.below hbk)
    replace HL := Lib.hid (HL.out.below hbk)
    have hB := hbk
    clear hbk hb
    go_wp2_with fail
    refine (l_asked m _ l [x, y, b] la _ lc _ 3 _ (by exact HM.out.below (bal (Below.refl _ _) (.cells #[.int .i64 x, .int .i64 y, .int .i64 b] 3))) (by exact HL.out.below (bal (Below.refl _ _) (.cells #[.int .i64 x, .int .i64 y, .int .i64 b] 3))) hll (by simpa using rdI_new w1 [x, y, b] 3 : RdI _ (some ⟨w1.heap.size, 0, none⟩) [x, y, b]) rfl (by decide)).mono ?_
    rintro e w2 ⟨rfl, hb⟩
    rw [HASK.out]
    have hbk : Below w1.heap.size w1 w2 := bthen (bal (Below.refl _ _) (.cells #[.int .i64 x, .int .i64 y, .int .i64 b] 3)) hb
    replace m0 := below_cell hbk m0
    replace m1 := below_cell hbk m1
    replace m2 := below_cell hbk m2
    replace hlt_m0 : w.heap.size < w2.heap.size := World.block_lt_of_cell? w2 _ m0
    replace HM := Lib.hid (HM.out.below hbk)
    replace HL := Lib.hid (HL.out.below hbk)
    replace hB := bthen hB hbk
    clear hbk hb
    go_wp2
    go_ret
    exact ⟨rfl, hB⟩
  | true =>
    have HASK := Lib.hid hask
    by_cases g0 : width < 0
    · clear hask hm0 hl0
      go_enter Try.func5, Try.ntmps5
      go_wp2_with fail
      refine (l_sane _).mono ?_
      rintro e w1 ⟨rfl, hb⟩
      have hbk : Below w.heap.size w w1 := bthen (bal (Below.refl _ _) (.cells #[.int .i64 m.n, .slice ka m.ks.length kc, .slice oa m.os.length oc] 24)) hb
      have m0 := below_cell hb (show (w.alloc (.cells #[.int .i64 m.n, .slice ka m.ks.length kc, .slice oa m.os.length oc] 24)).cell? ⟨w.heap.size, 0, none⟩ = some (.int .i64 m.n) from by simp)
      have m1 := below_cell hb (show (w.alloc (.cells #[.int .i64 m.n, .slice ka m.ks.length kc, .slice oa m.os.length oc] 24)).cell? ⟨w.heap.size, 1, none⟩ = some (.slice ka m.ks.length kc) from by simp)
      have m2 := below_cell hb (show (w.alloc (.cells #[.int .i64 m.n, .slice ka m.ks.length kc, .slice oa m.os.length oc] 24)).cell? ⟨w.heap.size, 2, none⟩ = some (.slice oa m.os.length oc) from by simp)
      have hlt_m0 : w.heap.size < w1.heap.size := World.block_lt_of_cell? w1 _ m0
      replace HM := Lib.hid (HM.out.below hbk)
      replace HL := Lib.hid (HL.out.below hbk)
      have hB := hbk
      clear hbk hb
      go_wp2_with fail
      refine (l_asked m _ l [x, y, b] la _ lc _ 3 _ (by exact HM.out.below (bal (Below.refl _ _) (.cells #[.int .i64 x, .int .i64 y, .int .i64 b] 3))) (by exact HL.out.below (bal (Below.refl _ _) (.cells #[.int .i64 x, .int .i64 y, .int .i64 b] 3))) hll (by simpa using rdI_new w1 [x, y, b] 3 : RdI _ (some ⟨w1.heap.size, 0, none⟩) [x, y, b]) rfl (by decide)).mono ?_
      rintro e w2 ⟨rfl, hb⟩
      rw [HASK.out]
      have hbk : Below w1.heap.size w1 w2 := bthen (bal (Below.refl _ _) (.cells #[.int .i64 x, .int .i64 y, .int .i64 b] 3)) hb
      replace m0 := below_cell hbk m0
      replace m1 := below_cell hbk m1
      replace m2 := below_cell hbk m2
      replace hlt_m0 : w.heap.size < w2.heap.size := World.block_lt_of_cell? w2 _ m0
      replace HM := Lib.hid (HM.out.below hbk)
      replace HL := Lib.hid (HL.out.below hbk)
      replace hB := bthen hB hbk
      clear hbk hb
      go_wp2
      go_ret
      exact ⟨rfl, hB⟩
    by_cases g1 : 16777216 < width
    · clear hask hm0 hl0
      have h0' : 0 ≤ width := by omega
      clear g0
      go_enter Try.func5, Try.ntmps5
      go_wp2_with fail
      refine (l_sane _).mono ?_
      rintro e w1 ⟨rfl, hb⟩
      have hbk : Below w.heap.size w w1 := bthen (bal (Below.refl _ _) (.cells #[.int .i64 m.n, .slice ka m.ks.length kc, .slice oa m.os.length oc] 24)) hb
      have m0 := below_cell hb (show (w.alloc (.cells #[.int .i64 m.n, .slice ka m.ks.length kc, .slice oa m.os.length oc] 24)).cell? ⟨w.heap.size, 0, none⟩ = some (.int .i64 m.n) from by simp)
      have m1 := below_cell hb (show (w.alloc (.cells #[.int .i64 m.n, .slice ka m.ks.length kc, .slice oa m.os.length oc] 24)).cell? ⟨w.heap.size, 1, none⟩ = some (.slice ka m.ks.length kc) from by simp)
      have m2 := below_cell hb (show (w.alloc (.cells #[.int .i64 m.n, .slice ka m.ks.length kc, .slice oa m.os.length oc] 24)).cell? ⟨w.heap.size, 2, none⟩ = some (.slice oa m.os.length oc) from by simp)
      have hlt_m0 : w.heap.size < w1.heap.size := World.block_lt_of_cell? w1 _ m0
      replace HM := Lib.hid (HM.out.below hbk)
      replace HL := Lib.hid (HL.out.below hbk)
      have hB := hbk
      clear hbk hb
      go_wp2_with fail
      refine (l_asked m _ l [x, y, b] la _ lc _ 3 _ (by exact HM.out.below (bal (Below.refl _ _) (.cells #[.int .i64 x, .int .i64 y, .int .i64 b] 3))) (by exact HL.out.below (bal (Below.refl _ _) (.cells #[.int .i64 x, .int .i64 y, .int .i64 b] 3))) hll (by simpa using rdI_new w1 [x, y, b] 3 : RdI _ (some ⟨w1.heap.size, 0, none⟩) [x, y, b]) rfl (by decide)).mono ?_
      rintro e w2 ⟨rfl, hb⟩
      rw [HASK.out]
      have hbk : Below w1.heap.size w1 w2 := bthen (bal (Below.refl _ _) (.cells #[.int .i64 x, .int .i64 y, .int .i64 b] 3)) hb
      replace m0 := below_cell hbk m0
      replace m1 := below_cell hbk m1
      replace m2 := below_cell hbk m2
      replace hlt_m0 : w.heap.size < w2.heap.size := World.block_lt_of_cell? w2 _ m0
      replace HM := Lib.hid (HM.out.below hbk)
      replace HL := Lib.hid (HL.out.below hbk)
      replace hB := bthen hB hbk
      clear hbk hb
      go_wp2
      go_ret
      exact ⟨rfl, hB⟩
    by_cases g2 : x = y
    · clear hask hm0 hl0
      have t1 : (x == y) = true := by simp [g2]
      have h0' : 0 ≤ width := by omega
      have h1' : width ≤ 16777216 := by omega
      clear g0 g1 g2
      go_enter Try.func5, Try.ntmps5
      go_wp2_with fail
      refine (l_sane _).mono ?_
      rintro e w1 ⟨rfl, hb⟩
      have hbk : Below w.heap.size w w1 := bthen (bal (Below.refl _ _) (.cells #[.int .i64 m.n, .slice ka m.ks.length kc, .slice oa m.os.length oc] 24)) hb
      have m0 := below_cell hb (show (w.alloc (.cells #[.int .i64 m.n, .slice ka m.ks.length kc, .slice oa m.os.length oc] 24)).cell? ⟨w.heap.size, 0, none⟩ = some (.int .i64 m.n) from by simp)
      have m1 := below_cell hb (show (w.alloc (.cells #[.int .i64 m.n, .slice ka m.ks.length kc, .slice oa m.os.length oc] 24)).cell? ⟨w.heap.size, 1, none⟩ = some (.slice ka m.ks.length kc) from by simp)
      have m2 := below_cell hb (show (w.alloc (.cells #[.int .i64 m.n, .slice ka m.ks.length kc, .slice oa m.os.length oc] 24)).cell? ⟨w.heap.size, 2, none⟩ = some (.slice oa m.os.length oc) from by simp)
      have hlt_m0 : w.heap.size < w1.heap.size := World.block_lt_of_cell? w1 _ m0
      replace HM := Lib.hid (HM.out.below hbk)
      replace HL := Lib.hid (HL.out.below hbk)
      have hB := hbk
      clear hbk hb
      go_wp2_with fail
      refine (l_asked m _ l [x, y, b] la _ lc _ 3 _ (by exact HM.out.below (bal (Below.refl _ _) (.cells #[.int .i64 x, .int .i64 y, .int .i64 b] 3))) (by exact HL.out.below (bal (Below.refl _ _) (.cells #[.int .i64 x, .int .i64 y, .int .i64 b] 3))) hll (by simpa using rdI_new w1 [x, y, b] 3 : RdI _ (some ⟨w1.heap.size, 0, none⟩) [x, y, b]) rfl (by decide)).mono ?_
      rintro e w2 ⟨rfl, hb⟩
      rw [HASK.out]
      have hbk : Below w1.heap.size w1 w2 := bthen (bal (Below.refl _ _) (.cells #[.int .i64 x, .int .i64 y, .int .i64 b] 3)) hb
      replace m0 := below_cell hbk m0
      replace m1 := below_cell hbk m1
      replace m2 := below_cell hbk m2
      replace hlt_m0 : w.heap.size < w2.heap.size := World.block_lt_of_cell? w2 _ m0
      replace HM := Lib.hid (HM.out.below hbk)
      replace HL := Lib.hid (HL.out.below hbk)
      replace hB := bthen hB hbk
      clear hbk hb
      go_wp2
      go_ret
      exact ⟨rfl, hB⟩
    by_cases g3 : b = y
    · clear hask hm0 hl0
      have t1 : (x == y) = false := by simp [g2]
      have t2 : (b == y) = true := by simp [g3]
      have h0' : 0 ≤ width := by omega
      have h1' : width ≤ 16777216 := by omega
      clear g0 g1 g2 g3
      go_enter Try.func5, Try.ntmps5
      go_wp2_with fail
      refine (l_sane _).mono ?_
      rintro e w1 ⟨rfl, hb⟩
      have hbk : Below w.heap.size w w1 := bthen (bal (Below.refl _ _) (.cells #[.int .i64 m.n, .slice ka m.ks.length kc, .slice oa m.os.length oc] 24)) hb
      have m0 := below_cell hb (show (w.alloc (.cells #[.int .i64 m.n, .slice ka m.ks.length kc, .slice oa m.os.length oc] 24)).cell? ⟨w.heap.size, 0, none⟩ = some (.int .i64 m.n) from by simp)
      have m1 := below_cell hb (show (w.alloc (.cells #[.int .i64 m.n, .slice ka m.ks.length kc, .slice oa m.os.length oc] 24)).cell? ⟨w.heap.size, 1, none⟩ = some (.slice ka m.ks.length kc) from by simp)
      have m2 := below_cell hb (show (w.alloc (.cells #[.int .i64 m.n, .slice ka m.ks.length kc, .slice oa m.os.length oc] 24)).cell? ⟨w.heap.size, 2, none⟩ = some (.slice oa m.os.length oc) from by simp)
      have hlt_m0 : w.heap.size < w1.heap.size := World.block_lt_of_cell? w1 _ m0
      replace HM := Lib.hid (HM.out.below hbk)
      replace HL := Lib.hid (HL.out.below hbk)
      have hB := hbk
      clear hbk hb
      go_wp2_with fail
      refine (l_asked m _ l [x, y, b] la _ lc _ 3 _ (by exact HM.out.below (bal (Below.refl _ _) (.cells #[.int .i64 x, .int .i64 y, .int .i64 b] 3))) (by exact HL.out.below (bal (Below.refl _ _) (.cells #[.int .i64 x, .int .i64 y, .int .i64 b] 3))) hll (by simpa using rdI_new w1 [x, y, b] 3 : RdI _ (some ⟨w1.heap.size, 0, none⟩) [x, y, b]) rfl (by decide)).mono ?_
      rintro e w2 ⟨rfl, hb⟩
      rw [HASK.out]
      have hbk : Below w1.heap.size w1 w2 := bthen (bal (Below.refl _ _) (.cells #[.int .i64 x, .int .i64 y, .int .i64 b] 3)) hb
      replace m0 := below_cell hbk m0
      replace m1 := below_cell hbk m1
      replace m2 := below_cell hbk m2
      replace hlt_m0 : w.heap.size < w2.heap.size := World.block_lt_of_cell? w2 _ m0
      replace HM := Lib.hid (HM.out.below hbk)
      replace HL := Lib.hid (HL.out.below hbk)
      replace hB := bthen hB hbk
      clear hbk hb
      go_wp2
      go_ret
      exact ⟨rfl, hB⟩
    have h0' : 0 ≤ width := by omega
    have h1' : width ≤ 16777216 := by omega
    obtain ⟨_, _, hok, _, hcl⟩ := asked_yes hask
    have hcl' := clock_bd hcl
    have hx := hcl' x (by simp)
    have hy := hcl' y (by simp)
    have hb := hcl' b (by simp)
    have hM := okM hok
    have n2 := hM.n2
    have n8 := hM.n8
    have tN : (((m.n.toNat : Nat) : Int) != m.n) = false := by rw [bne_eq_false_iff_eq]; omega
    obtain ⟨p, is, bl, isb, tl, ist, s, one, e0, R, R', e1, e2, e3, e4, LB', e5, e6, LT', hp, f1, f2, hex, r4, r5⟩ := named hask h0' h1' g2 g3
    obtain ⟨x, rfl⟩ := Int.eq_ofNat_of_zero_le hx.1
    obtain ⟨y, rfl⟩ := Int.eq_ofNat_of_zero_le hy.1
    obtain ⟨b, rfl⟩ := Int.eq_ofNat_of_zero_le hb.1
    simp only [Int.toNat_natCast] at hex
    have hexd : decide ((List.range m.n.toNat).map R = (List.range m.n.toNat).map (exch R' x y)) = true := decide_eq_true hex.symm
    have hne : 0 < m.os.length → m.os ≠ [] := fun h e => by rw [e] at h; simp at h
    have r5' : ∀ b, (exch R' x y b).length ≤ 140737488355328 := fun b => by
      unfold exch
      have h1 := r5 x; have h2 := r5 y; have h3 := r5 b
      split
      · omega
      · split <;> omega
    by_cases g4 : b = x
    · subst g4
      have hto : swI (b : Int) (y : Int) (b : Int) = (y : Int) := by simp [swI]
      rw [hto] at e2 e4 hp
      by_cases ho : 0 < m.os.length
      · exact named_A1 m _ l la lc b y width w hm0 hl0 hll hask h0' h1' hM.k24 hM.o12 m.n.toNat (by omega) (by omega) (by omega) (by omega) (by omega) tN p is bl isb tl ist s one e0 R R' e1 e2 e3 e4 LB' e5 e6 LT' (fun h => hp (hne h)) f1 f2 hexd r4 r5' ho
      · exact named_A0 m _ l la lc b y width w hm0 hl0 hll hask h0' h1' hM.k24 hM.o12 m.n.toNat (by omega) (by omega) (by omega) (by omega) (by omega) tN p is bl isb tl ist s one e0 R R' e1 e2 e3 e4 LB' e5 e6 LT' (fun h => hp (hne h)) f1 f2 hexd r4 r5' ho
    · have hto : swI (x : Int) (y : Int) (b : Int) = (b : Int) := by unfold swI; rw [if_neg (by omega), if_neg (by omega)]
      rw [hto] at e2 e4 hp
      by_cases ho : 0 < m.os.length
      · exact named_B1 m _ l la lc x y b width w hm0 hl0 hll hask h0' h1' hM.k24 hM.o12 m.n.toNat (by omega) (by omega) (by omega) (by omega) (by omega) (by omega) g4 tN p is bl isb tl ist s one e0 R R' e1 e2 e3 e4 LB' e5 e6 LT' (fun h => hp (hne h)) f1 f2 hexd r4 r5' ho
      · exact named_B0 m _ l la lc x y b width w hm0 hl0 hll hask h0' h1' hM.k24 hM.o12 m.n.toNat (by omega) (by omega) (by omega) (by omega) (by omega) (by omega) g4 tN p is bl isb tl ist s one e0 R R' e1 e2 e3 e4 LB' e5 e6 LT' (fun h => hp (hne h)) f1 f2 hexd r4 r5' ho
end Go.Proofs.Ytjdldmecjhddnaa
namespace Go.Proofs.Ytjdldmecjhddnaa.keeperNamed
open Go.ChangeShapes Go.WideShapes Go.ChangeAt Go.RowKit
set_option linter.unusedVariables false
theorem own : ownKnob Try.prog.godebug = none := by kernel_rfl
set_option maxRecDepth 100000 in
theorem lifted (os : Os) (started : os.Started) (H : Type) (enc : TypeId × Value → H) :
    ReturnsInHanded {} Try.checked os 5 .any (Rows.keeperNamedSpec.pre6 enc Try.prog Try.f5 Rows.keeperNamedRow.domain false) (Rows.keeperNamedSpec.post enc Try.prog Try.f5 false true false false) := by
  refine returnsInHanded_of_change_sized (C := Try.checked) own started (by kernel_rfl) Try.func5
    (ChangeSpec.witness6 (enc := enc) (C := Try.checked) false ⟨#[], #[.agg #[.int .i64 0, .slice none 0 0, .slice none 0 0], .slice none 0 0, .int .i64 0, .int .i64 0, .int .i64 0, .int .i64 0], []⟩ 8 (by kernel_rfl) (by kernel_rfl) (by kernel_rfl) (by kernel_rfl)) ?_
  intro W base args ds gs before hval0 hW hcnd hsz0 _
  have hsz : (DataW.weightsEach Try.prog (Try.f5.params.toList ++ Rows.keeperNamedSpec.plain.varTypes Try.prog) (ds ++ gs)).all (· ≤ reachBytes) = true := hsz0
  have hval : ∀ (j : Nat) t v, Try.f5.params[j]? = some t → args[j]? = some v → Value.okWide Try.prog W .any base t v := hval0
  have hW' := hW
  obtain ⟨p, q, hA0, hV, rfl, hfz, hnd⟩ := hW
  have hA : DataW.TrodAll enc Try.prog W 0 (fun _ => true) true Try.f5.params.toList args.toList ds p := hA0
  rw [Try.params5] at hA hval hsz
  obtain ⟨v0, vs0, d0, ds0, p0, q0, hargs, rfl, rfl, h0, r0⟩ := trodAll_cons hA
  obtain ⟨v1, vs1, d1, ds1, p1, q1, rfl, rfl, rfl, h1, r1⟩ := trodAll_cons r0
  obtain ⟨v2, vs2, d2, ds2, p2, q2, rfl, rfl, rfl, h2, r2⟩ := trodAll_cons r1
  obtain ⟨v3, vs3, d3, ds3, p3, q3, rfl, rfl, rfl, h3, r3⟩ := trodAll_cons r2
  obtain ⟨v4, vs4, d4, ds4, p4, q4, rfl, rfl, rfl, h4, r4⟩ := trodAll_cons r3
  obtain ⟨v5, vs5, d5, ds5, p5, q5, rfl, rfl, rfl, h5, r5⟩ := trodAll_cons r4
  obtain ⟨rfl, rfl, rfl⟩ := trodAll_nil r5
  obtain rfl : args = #[v0, v1, v2, v3, v4, v5] := by cases args; simp_all
  obtain ⟨rfl, rfl⟩ := trodVars_none hV
  have k0 := h0
  have lt0 : ∀ x ∈ p0, x.block < W.heap.size := by obtain ⟨m, hm⟩ := k0; exact DataW.trod_lt m _ _ _ hm
  obtain ⟨m0, hm0⟩ := open_market (hval 0 24 v0 rfl rfl) h0
  have k1 := h1
  have lt1 : ∀ x ∈ p1, x.block < W.heap.size := by obtain ⟨m, hm⟩ := k1; exact DataW.trod_lt m _ _ _ hm
  obtain ⟨a1, len1, cap1, rfl⟩ := okWide_slice Try.underlying27 (hval 1 27 v1 rfl rfl)
  obtain ⟨l1, hl1, hr1, hb1⟩ := open_nums hsz (j := 1) rfl rfl h1
  obtain ⟨a2, rfl, rfl, rfl, w2⟩ := open_int Try.underlying3 (hval 2 3 v2 rfl rfl) h2
  obtain ⟨a3, rfl, rfl, rfl, w3⟩ := open_int Try.underlying3 (hval 3 3 v3 rfl rfl) h3
  obtain ⟨a4, rfl, rfl, rfl, w4⟩ := open_int Try.underlying3 (hval 4 3 v4 rfl rfl) h4
  obtain ⟨a5, rfl, rfl, rfl, w5⟩ := open_int Try.underlying3 (hval 5 3 v5 rfl rfl) h5
  clear hA0 hval0 hsz0 hsz
  refine (law_Named m0 _ l1 a1 len1 cap1 a2 a3 a4 a5 W hm0 hl1 hr1 hb1).mono fun e W' ⟨he, bel⟩ => ?_
  subst he
  exact ⟨_, rfl, _, _, _, [], _, [], hW', trodAll_mk1 (shut_bool Try.underlying4 _), (trodAll_cons_mk (Below.trod laidOutT (by kernel_rfl) (of_decide_eq_true (by kernel_rfl)) k0 bel lt0) (trodAll_cons_mk (Below.trod laidOutT (by kernel_rfl) (of_decide_eq_true (by kernel_rfl)) k1 bel lt1) (trodAll_cons_mk (shut_int Try.underlying3 w2) (trodAll_cons_mk (shut_int Try.underlying3 w3) (trodAll_cons_mk (shut_int Try.underlying3 w4) (trodAll_cons_mk (shut_int Try.underlying3 w5) trodAll_mk0)))))), rfl, bel.frame _, fun h => by cases h⟩
theorem over : Rows.keeperNamedRow.holds Try.pinned (OpenSpec.ofChange Rows.keeperNamedSpec) :=
  OpenClaim.holds_of_wide 5 Try.f5 rfl rfl rfl rfl rfl rfl rfl ⟨rfl, rfl, rfl, rfl, rfl⟩ rfl rfl rfl rfl rfl (by kernel_rfl) Try.func5 (by kernel_rfl)
    (of_decide_eq_true (by kernel_rfl)) (by unfold Func.isWrapper; first | (rw [if_pos (by decide +kernel)]; kernel_rfl) | (rw [if_neg (by decide +kernel)]; exact ⟨rfl, rfl⟩))
    (fun os started H enc _ => lifted os started H enc)
end Go.Proofs.Ytjdldmecjhddnaa.keeperNamed
namespace Go.Proofs.Ytjdldmecjhddnaa
theorem keeperNamed_holds : Rows.KeeperNamedSaid := keeperNamed.over
#print axioms keeperNamed_holds
end Go.Proofs.Ytjdldmecjhddnaa
