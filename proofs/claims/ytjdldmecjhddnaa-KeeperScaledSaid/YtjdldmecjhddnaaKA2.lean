/- The contract of the laws' asked. -/
import Derived.Test.YtjdldmecjhddnaaKA1
import Derived.Test.YtjdldmecjhddnaaKR2
namespace Go.Proofs.Ytjdldmecjhddnaa
open Go.RowKit
set_option linter.unusedVariables false
set_option linter.unusedSimpArgs false

theorem RdV_one (w : World) (v : Value) (e : TypeId) : RdV (w.alloc (.cells #[v] e)) (some ⟨w.heap.size, 0, none⟩) [v] := by
  intro _
  refine ⟨w.heap.size, 0, rfl, fun i u hu => ?_⟩
  cases i with
  | zero => obtain rfl : v = u := by simpa using hu
            simp
  | succ i => simp at hu
def askedB (m : Mk) (l cl : List Int) : Bool := fewB m && (decide (l.length ≤ 100) && (m.ok && (right m.os.length l && cl.all (okC m.n))))
theorem noClock_all (n : Int) (cl : List Int) : (!((cl.map (Value.int .i64)).any (noClock n))) = cl.all (okC n) := by
  rw [Bool.eq_iff_iff, Bool.not_eq_true', List.any_eq_false, List.all_eq_true]
  constructor
  · intro h x hx
    have := h _ (List.mem_map_of_mem hx)
    simp only [noClock, Bool.or_eq_true, decide_eq_true_eq] at this
    simp only [okC, Bool.and_eq_true, decide_eq_true_eq]
    omega
  · intro h v hv
    obtain ⟨x, hx, rfl⟩ := List.mem_map.1 hv
    have := h x hx
    simp only [okC, Bool.and_eq_true, decide_eq_true_eq] at this
    simp only [noClock, Bool.or_eq_true, decide_eq_true_eq]
    omega
set_option maxHeartbeats 8000000 in
set_option maxRecDepth 100000 in
theorem l_asked (m : Mk) (mv : Value) (l cl : List Int) (la ca : Option Addr) (lc cc cn : Nat) (w : World) (hm : MkRd w m mv) (hl : RdI w la l) (hll : l.length ≤ 140737488355328) (hc : RdI w ca cl) (hcn : cl.length = cn) (hcl : cn ≤ 140737488355328) :
    Calls Try.prog 28 #[mv, .slice la l.length lc, .slice ca cn cc] w fun e w' => e = .returned (.bool (askedB m l cl)) ∧ Below w.heap.size w w' := by
  have HM := Lib.hid hm
  obtain ⟨ka, kc, oa, oc, rfl, _⟩ := hm
  have HL := Lib.hid hl
  have HC := Lib.hid (RdV.ints hc)
  have HCN := Lib.hid hcn
  obtain ⟨ln, hln⟩ : ∃ ln, l.length = ln := ⟨_, rfl⟩
  have HLN := Lib.hid hln
  have hR : Hid (askedB m l cl = (fewB m && (decide (ln ≤ 100) && (m.ok && (right m.os.length l && cl.all (okC m.n)))))) := Lib.hid (by rw [← hln]; rfl)
  rw [hln] at hll ⊢
  clear hl hc hcn hln
  cases hfew : fewB m with
  | false =>
    have HFEW := Lib.hid hfew
    clear hfew
    go_enter Try.func28, Try.ntmps28
    go_wp2_with fail
    refine (l_few m _ _ (by exact HM.out.below (bal (Below.refl _ _) (.cells #[.int .i64 m.n, .slice ka m.ks.length kc, .slice oa m.os.length oc] 24)))).mono ?_
    rintro e w1 ⟨rfl, hb⟩
    rw [HFEW.out]
    have hbk : Below w.heap.size w w1 := bthen (bal (Below.refl _ _) (.cells #[.int .i64 m.n, .slice ka m.ks.length kc, .slice oa m.os.length oc] 24)) hb
    have m0 := below_cell hb (show (w.alloc (.cells #[.int .i64 m.n, .slice ka m.ks.length kc, .slice oa m.os.length oc] 24)).cell? ⟨w.heap.size, 0, none⟩ = some (.int .i64 m.n) from by simp)
    have m1 := below_cell hb (show (w.alloc (.cells #[.int .i64 m.n, .slice ka m.ks.length kc, .slice oa m.os.length oc] 24)).cell? ⟨w.heap.size, 1, none⟩ = some (.slice ka m.ks.length kc) from by simp)
    have m2 := below_cell hb (show (w.alloc (.cells #[.int .i64 m.n, .slice ka m.ks.length kc, .slice oa m.os.length oc] 24)).cell? ⟨w.heap.size, 2, none⟩ = some (.slice oa m.os.length oc) from by simp)
    have hlt_m0 : w.heap.size < w1.heap.size := World.block_lt_of_cell? w1 _ m0
    replace HM := Lib.hid (HM.out.below hbk)
    replace HL := Lib.hid (HL.out.below hbk)
    replace HC := Lib.hid (HC.out.below hbk)
    have hB := hbk
    clear hbk hb
    go_wp2
    go_ret
    exact ⟨ret_bool (by rw [hR.out, HFEW.out]; simp), hB⟩
  | true =>
    have HFEW := Lib.hid hfew
    clear hfew
    cases hs : decide (ln ≤ 100) with
    | false =>
      have HS := Lib.hid hs
      clear hs
      go_enter Try.func28, Try.ntmps28
      go_wp2_with fail
      refine (l_few m _ _ (by exact HM.out.below (bal (Below.refl _ _) (.cells #[.int .i64 m.n, .slice ka m.ks.length kc, .slice oa m.os.length oc] 24)))).mono ?_
      rintro e w1 ⟨rfl, hb⟩
      rw [HFEW.out]
      have hbk : Below w.heap.size w w1 := bthen (bal (Below.refl _ _) (.cells #[.int .i64 m.n, .slice ka m.ks.length kc, .slice oa m.os.length oc] 24)) hb
      have m0 := below_cell hb (show (w.alloc (.cells #[.int .i64 m.n, .slice ka m.ks.length kc, .slice oa m.os.length oc] 24)).cell? ⟨w.heap.size, 0, none⟩ = some (.int .i64 m.n) from by simp)
      have m1 := below_cell hb (show (w.alloc (.cells #[.int .i64 m.n, .slice ka m.ks.length kc, .slice oa m.os.length oc] 24)).cell? ⟨w.heap.size, 1, none⟩ = some (.slice ka m.ks.length kc) from by simp)
      have m2 := below_cell hb (show (w.alloc (.cells #[.int .i64 m.n, .slice ka m.ks.length kc, .slice oa m.os.length oc] 24)).cell? ⟨w.heap.size, 2, none⟩ = some (.slice oa m.os.length oc) from by simp)
      have hlt_m0 : w.heap.size < w1.heap.size := World.block_lt_of_cell? w1 _ m0
      replace HM := Lib.hid (HM.out.below hbk)
      replace HL := Lib.hid (HL.out.below hbk)
      replace HC := Lib.hid (HC.out.below hbk)
      have hB := hbk
      clear hbk hb
      go_wp2_with fail
      refine (l_short la ln lc _ _ _ hll (RdV_one _ _ _)).mono ?_
      rintro e w2 ⟨rfl, hb⟩
      rw [HS.out]
      have hbk : Below w1.heap.size w1 w2 := bthen (bal (Below.refl _ _) (.cells #[.slice la ln lc] 27)) hb
      replace m0 := below_cell hbk m0
      replace m1 := below_cell hbk m1
      replace m2 := below_cell hbk m2
      replace hlt_m0 : w.heap.size < w2.heap.size := World.block_lt_of_cell? w2 _ m0
      replace HM := Lib.hid (HM.out.below hbk)
      replace HL := Lib.hid (HL.out.below hbk)
      replace HC := Lib.hid (HC.out.below hbk)
      replace hB := bthen hB hbk
      clear hbk hb
      go_wp2
      go_ret
      exact ⟨ret_bool (by rw [hR.out, HFEW.out, HS.out]; simp), hB⟩
    | true =>
      have HS := Lib.hid hs
      clear hs
      cases hok : m.ok with
      | false =>
        have HOK := Lib.hid hok
        have HK := Lib.hid (chkE_no hok)
        clear hok
        go_enter Try.func28, Try.ntmps28
        go_wp2_with fail
        refine (l_few m _ _ (by exact HM.out.below (bal (Below.refl _ _) (.cells #[.int .i64 m.n, .slice ka m.ks.length kc, .slice oa m.os.length oc] 24)))).mono ?_
        rintro e w1 ⟨rfl, hb⟩
        rw [HFEW.out]
        have hbk : Below w.heap.size w w1 := bthen (bal (Below.refl _ _) (.cells #[.int .i64 m.n, .slice ka m.ks.length kc, .slice oa m.os.length oc] 24)) hb
        have m0 := below_cell hb (show (w.alloc (.cells #[.int .i64 m.n, .slice ka m.ks.length kc, .slice oa m.os.length oc] 24)).cell? ⟨w.heap.size, 0, none⟩ = some (.int .i64 m.n) from by simp)
        have m1 := below_cell hb (show (w.alloc (.cells #[.int .i64 m.n, .slice ka m.ks.length kc, .slice oa m.os.length oc] 24)).cell? ⟨w.heap.size, 1, none⟩ = some (.slice ka m.ks.length kc) from by simp)
        have m2 := below_cell hb (show (w.alloc (.cells #[.int .i64 m.n, .slice ka m.ks.length kc, .slice oa m.os.length oc] 24)).cell? ⟨w.heap.size, 2, none⟩ = some (.slice oa m.os.length oc) from by simp)
        have hlt_m0 : w.heap.size < w1.heap.size := World.block_lt_of_cell? w1 _ m0
        replace HM := Lib.hid (HM.out.below hbk)
        replace HL := Lib.hid (HL.out.below hbk)
        replace HC := Lib.hid (HC.out.below hbk)
        have hB := hbk
        clear hbk hb
        go_wp2_with fail
        refine (l_short la ln lc _ _ _ hll (RdV_one _ _ _)).mono ?_
        rintro e w2 ⟨rfl, hb⟩
        rw [HS.out]
        have hbk : Below w1.heap.size w1 w2 := bthen (bal (Below.refl _ _) (.cells #[.slice la ln lc] 27)) hb
        replace m0 := below_cell hbk m0
        replace m1 := below_cell hbk m1
        replace m2 := below_cell hbk m2
        replace hlt_m0 : w.heap.size < w2.heap.size := World.block_lt_of_cell? w2 _ m0
        replace HM := Lib.hid (HM.out.below hbk)
        replace HL := Lib.hid (HL.out.below hbk)
        replace HC := Lib.hid (HC.out.below hbk)
        replace hB := bthen hB hbk
        clear hbk hb
        go_wp2_with fail
        refine (k_Check m _ _ (by exact HM.out.below (Below.refl _ _))).mono ?_
        rintro e w3 ⟨rfl, hb⟩
        rw [HK.out]
        have hbk : Below w2.heap.size w2 w3 := bthen (Below.refl _ _) hb
        replace m0 := below_cell hbk m0
        replace m1 := below_cell hbk m1
        replace m2 := below_cell hbk m2
        replace hlt_m0 : w.heap.size < w3.heap.size := World.block_lt_of_cell? w3 _ m0
        replace HM := Lib.hid (HM.out.below hbk)
        replace HL := Lib.hid (HL.out.below hbk)
        replace HC := Lib.hid (HC.out.below hbk)
        replace hB := bthen hB hbk
        clear hbk hb
        go_wp2
        go_ret
        exact ⟨ret_bool (by rw [hR.out, HFEW.out, HS.out, HOK.out]; simp), hB⟩
      | true =>
        have HOK := Lib.hid hok
        have HK := Lib.hid (show chkE m = 0 from by simp [chkE, hok])
        clear hok
        cases hr : right m.os.length l with
        | false =>
          have HR := Lib.hid hr
          clear hr
          go_enter Try.func28, Try.ntmps28
          go_wp2_with fail
          refine (l_few m _ _ (by exact HM.out.below (bal (Below.refl _ _) (.cells #[.int .i64 m.n, .slice ka m.ks.length kc, .slice oa m.os.length oc] 24)))).mono ?_
          rintro e w1 ⟨rfl, hb⟩
          rw [HFEW.out]
          have hbk : Below w.heap.size w w1 := bthen (bal (Below.refl _ _) (.cells #[.int .i64 m.n, .slice ka m.ks.length kc, .slice oa m.os.length oc] 24)) hb
          have m0 := below_cell hb (show (w.alloc (.cells #[.int .i64 m.n, .slice ka m.ks.length kc, .slice oa m.os.length oc] 24)).cell? ⟨w.heap.size, 0, none⟩ = some (.int .i64 m.n) from by simp)
          have m1 := below_cell hb (show (w.alloc (.cells #[.int .i64 m.n, .slice ka m.ks.length kc, .slice oa m.os.length oc] 24)).cell? ⟨w.heap.size, 1, none⟩ = some (.slice ka m.ks.length kc) from by simp)
          have m2 := below_cell hb (show (w.alloc (.cells #[.int .i64 m.n, .slice ka m.ks.length kc, .slice oa m.os.length oc] 24)).cell? ⟨w.heap.size, 2, none⟩ = some (.slice oa m.os.length oc) from by simp)
          have hlt_m0 : w.heap.size < w1.heap.size := World.block_lt_of_cell? w1 _ m0
          replace HM := Lib.hid (HM.out.below hbk)
          replace HL := Lib.hid (HL.out.below hbk)
          replace HC := Lib.hid (HC.out.below hbk)
          have hB := hbk
          clear hbk hb
          go_wp2_with fail
          refine (l_short la ln lc _ _ _ hll (RdV_one _ _ _)).mono ?_
          rintro e w2 ⟨rfl, hb⟩
          rw [HS.out]
          have hbk : Below w1.heap.size w1 w2 := bthen (bal (Below.refl _ _) (.cells #[.slice la ln lc] 27)) hb
          replace m0 := below_cell hbk m0
          replace m1 := below_cell hbk m1
          replace m2 := below_cell hbk m2
          replace hlt_m0 : w.heap.size < w2.heap.size := World.block_lt_of_cell? w2 _ m0
          replace HM := Lib.hid (HM.out.below hbk)
          replace HL := Lib.hid (HL.out.below hbk)
          replace HC := Lib.hid (HC.out.below hbk)
          replace hB := bthen hB hbk
          clear hbk hb
          go_wp2_with fail
          refine (k_Check m _ _ (by exact HM.out.below (Below.refl _ _))).mono ?_
          rintro e w3 ⟨rfl, hb⟩
          rw [HK.out]
          have hbk : Below w2.heap.size w2 w3 := bthen (Below.refl _ _) hb
          replace m0 := below_cell hbk m0
          replace m1 := below_cell hbk m1
          replace m2 := below_cell hbk m2
          replace hlt_m0 : w.heap.size < w3.heap.size := World.block_lt_of_cell? w3 _ m0
          replace HM := Lib.hid (HM.out.below hbk)
          replace HL := Lib.hid (HL.out.below hbk)
          replace HC := Lib.hid (HC.out.below hbk)
          replace hB := bthen hB hbk
          clear hbk hb
          go_wp2_with fail
          refine (r_Check m _ _ (by exact HM.out.below (Below.refl _ _))).mono ?_
          rintro e w4 ⟨rfl, hb⟩
          rw [HK.out]
          have hbk : Below w3.heap.size w3 w4 := bthen (Below.refl _ _) hb
          replace m0 := below_cell hbk m0
          replace m1 := below_cell hbk m1
          replace m2 := below_cell hbk m2
          replace hlt_m0 : w.heap.size < w4.heap.size := World.block_lt_of_cell? w4 _ m0
          replace HM := Lib.hid (HM.out.below hbk)
          replace HL := Lib.hid (HL.out.below hbk)
          replace HC := Lib.hid (HC.out.below hbk)
          replace hB := bthen hB hbk
          clear hbk hb
          go_wp2_with fail
          refine (HLN.out ▸ r_Right m _ l la lc _ (by exact HM.out.below (Below.refl _ _)) (by exact HL.out.below (Below.refl _ _)) (by rw [HLN.out]; exact hll)).mono ?_
          rintro e w5 ⟨rfl, hb⟩
          rw [HR.out]
          have hbk : Below w4.heap.size w4 w5 := bthen (Below.refl _ _) hb
          replace m0 := below_cell hbk m0
          replace m1 := below_cell hbk m1
          replace m2 := below_cell hbk m2
          replace hlt_m0 : w.heap.size < w5.heap.size := World.block_lt_of_cell? w5 _ m0
          replace HM := Lib.hid (HM.out.below hbk)
          replace HL := Lib.hid (HL.out.below hbk)
          replace HC := Lib.hid (HC.out.below hbk)
          replace hB := bthen hB hbk
          clear hbk hb
          go_wp2
          go_ret
          exact ⟨ret_bool (by rw [hR.out, HFEW.out, HS.out, HOK.out, HR.out]; simp), hB⟩
        | true =>
          have HR := Lib.hid hr
          clear hr
          go_enter Try.func28, Try.ntmps28
          go_wp2_with fail
          refine (l_few m _ _ (by exact HM.out.below (bal (Below.refl _ _) (.cells #[.int .i64 m.n, .slice ka m.ks.length kc, .slice oa m.os.length oc] 24)))).mono ?_
          rintro e w1 ⟨rfl, hb⟩
          rw [HFEW.out]
          have hbk : Below w.heap.size w w1 := bthen (bal (Below.refl _ _) (.cells #[.int .i64 m.n, .slice ka m.ks.length kc, .slice oa m.os.length oc] 24)) hb
          have m0 := below_cell hb (show (w.alloc (.cells #[.int .i64 m.n, .slice ka m.ks.length kc, .slice oa m.os.length oc] 24)).cell? ⟨w.heap.size, 0, none⟩ = some (.int .i64 m.n) from by simp)
          have m1 := below_cell hb (show (w.alloc (.cells #[.int .i64 m.n, .slice ka m.ks.length kc, .slice oa m.os.length oc] 24)).cell? ⟨w.heap.size, 1, none⟩ = some (.slice ka m.ks.length kc) from by simp)
          have m2 := below_cell hb (show (w.alloc (.cells #[.int .i64 m.n, .slice ka m.ks.length kc, .slice oa m.os.length oc] 24)).cell? ⟨w.heap.size, 2, none⟩ = some (.slice oa m.os.length oc) from by simp)
          have hlt_m0 : w.heap.size < w1.heap.size := World.block_lt_of_cell? w1 _ m0
          replace HM := Lib.hid (HM.out.below hbk)
          replace HL := Lib.hid (HL.out.below hbk)
          replace HC := Lib.hid (HC.out.below hbk)
          have hB := hbk
          clear hbk hb
          go_wp2_with fail
          refine (l_short la ln lc _ _ _ hll (RdV_one _ _ _)).mono ?_
          rintro e w2 ⟨rfl, hb⟩
          rw [HS.out]
          have hbk : Below w1.heap.size w1 w2 := bthen (bal (Below.refl _ _) (.cells #[.slice la ln lc] 27)) hb
          replace m0 := below_cell hbk m0
          replace m1 := below_cell hbk m1
          replace m2 := below_cell hbk m2
          replace hlt_m0 : w.heap.size < w2.heap.size := World.block_lt_of_cell? w2 _ m0
          replace HM := Lib.hid (HM.out.below hbk)
          replace HL := Lib.hid (HL.out.below hbk)
          replace HC := Lib.hid (HC.out.below hbk)
          replace hB := bthen hB hbk
          clear hbk hb
          go_wp2_with fail
          refine (k_Check m _ _ (by exact HM.out.below (Below.refl _ _))).mono ?_
          rintro e w3 ⟨rfl, hb⟩
          rw [HK.out]
          have hbk : Below w2.heap.size w2 w3 := bthen (Below.refl _ _) hb
          replace m0 := below_cell hbk m0
          replace m1 := below_cell hbk m1
          replace m2 := below_cell hbk m2
          replace hlt_m0 : w.heap.size < w3.heap.size := World.block_lt_of_cell? w3 _ m0
          replace HM := Lib.hid (HM.out.below hbk)
          replace HL := Lib.hid (HL.out.below hbk)
          replace HC := Lib.hid (HC.out.below hbk)
          replace hB := bthen hB hbk
          clear hbk hb
          go_wp2_with fail
          refine (r_Check m _ _ (by exact HM.out.below (Below.refl _ _))).mono ?_
          rintro e w4 ⟨rfl, hb⟩
          rw [HK.out]
          have hbk : Below w3.heap.size w3 w4 := bthen (Below.refl _ _) hb
          replace m0 := below_cell hbk m0
          replace m1 := below_cell hbk m1
          replace m2 := below_cell hbk m2
          replace hlt_m0 : w.heap.size < w4.heap.size := World.block_lt_of_cell? w4 _ m0
          replace HM := Lib.hid (HM.out.below hbk)
          replace HL := Lib.hid (HL.out.below hbk)
          replace HC := Lib.hid (HC.out.below hbk)
          replace hB := bthen hB hbk
          clear hbk hb
          go_wp2_with fail
          refine (HLN.out ▸ r_Right m _ l la lc _ (by exact HM.out.below (Below.refl _ _)) (by exact HL.out.below (Below.refl _ _)) (by rw [HLN.out]; exact hll)).mono ?_
          rintro e w5 ⟨rfl, hb⟩
          rw [HR.out]
          have hbk : Below w4.heap.size w4 w5 := bthen (Below.refl _ _) hb
          replace m0 := below_cell hbk m0
          replace m1 := below_cell hbk m1
          replace m2 := below_cell hbk m2
          replace hlt_m0 : w.heap.size < w5.heap.size := World.block_lt_of_cell? w5 _ m0
          replace HM := Lib.hid (HM.out.below hbk)
          replace HL := Lib.hid (HL.out.below hbk)
          replace HC := Lib.hid (HC.out.below hbk)
          replace hB := bthen hB hbk
          clear hbk hb
          go_wp2_with fail
          refine (c_ContainsFuncI (cl.map (Value.int .i64)) (noClock m.n) ca cn cc _ _ (by rw [List.length_map]; exact HCN.out) (by exact HC.out.below (Below.refl _ _)) hcl ⟨82, #[.pointer (some ⟨w.heap.size, 0, none⟩)], rfl, enters_of Try.func82 (by kernel_rfl) rfl, fun W v hW hv => by obtain ⟨x, hx, rfl⟩ := List.mem_map.1 hv; exact l_asked1 m.n x w.heap.size W (below_cell hW m0)⟩).mono ?_
          rintro e w6 ⟨rfl, hb⟩
          have hbk : Below w5.heap.size w5 w6 := bthen (Below.refl _ _) hb
          replace m0 := below_cell hbk m0
          replace m1 := below_cell hbk m1
          replace m2 := below_cell hbk m2
          replace hlt_m0 : w.heap.size < w6.heap.size := World.block_lt_of_cell? w6 _ m0
          replace HM := Lib.hid (HM.out.below hbk)
          replace HL := Lib.hid (HL.out.below hbk)
          replace HC := Lib.hid (HC.out.below hbk)
          replace hB := bthen hB hbk
          clear hbk hb
          go_wp2
          go_ret
          exact ⟨ret_bool (by rw [hR.out, HFEW.out, HS.out, HOK.out, HR.out, ← noClock_all]; simp), hB⟩
end Go.Proofs.Ytjdldmecjhddnaa
