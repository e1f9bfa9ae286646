/- The contract of the reference's Price. -/
import Derived.Test.YtjdldmecjhddnaaKR8
import Derived.Test.YtjdldmecjhddnaaK12
namespace Go.Proofs.Ytjdldmecjhddnaa
open Go.RowKit
set_option linter.unusedVariables false
set_option linter.unusedSimpArgs false

/-- The least cost of the sets below k that do what is wanted. -/
def mC (os : List Off) (p : Nat → Bool) : Nat → Int
  | 0 => 1099511627776
  | k + 1 => if p k then mn (mC os p k) (costL os (bits 12 k)) else mC os p k
theorem mC_spec (os : List Off) (p : Nat → Bool) : ∀ k, mC os p k ≤ 1099511627776 ∧ (∀ s, s < k → p s = true → mC os p k ≤ costL os (bits 12 s)) ∧ (mC os p k = 1099511627776 ∨ ∃ s, s < k ∧ p s = true ∧ costL os (bits 12 s) = mC os p k)
  | 0 => ⟨Int.le_refl _, fun s h => absurd h (Nat.not_lt_zero _), .inl rfl⟩
  | k + 1 => by
    obtain ⟨h1, h2, h3⟩ := mC_spec os p k
    unfold mC
    cases hp : p k with
    | false =>
      simp only [Bool.false_eq_true, if_false]
      refine ⟨h1, fun s hs hps => ?_, h3.imp id (fun ⟨s, a, b, c⟩ => ⟨s, by omega, b, c⟩)⟩
      rcases Nat.lt_or_ge s k with h | h
      · exact h2 s h hps
      · obtain rfl : s = k := by omega
        rw [hp] at hps; cases hps
    | true =>
      simp only [if_true]
      rcases mn_cases (mC os p k) (costL os (bits 12 k)) with ⟨e, hle⟩ | ⟨e, hle⟩
      · rw [e]
        refine ⟨h1, fun s hs hps => ?_, h3.imp id (fun ⟨s, a, b, c⟩ => ⟨s, by omega, b, c⟩)⟩
        rcases Nat.lt_or_ge s k with h | h
        · exact h2 s h hps
        · obtain rfl : s = k := by omega
          exact hle
      · rw [e]
        refine ⟨by omega, fun s hs hps => ?_, .inr ⟨k, by omega, hp, rfl⟩⟩
        rcases Nat.lt_or_ge s k with h | h
        · have := h2 s h hps; omega
        · obtain rfl : s = k := by omega
          exact Int.le_refl _
theorem mC_none {os : List Off} {p : Nat → Bool} (h : leastS os p = none) : mC os p (2 ^ os.length) = 1099511627776 := by
  rcases (mC_spec os p (2 ^ os.length)).2.2 with e | ⟨s, hs, hps, _⟩
  · exact e
  · rw [leastS_none h s hs] at hps; cases hps
theorem mC_some {m : Mk} (hok : m.ok = true) {p : Nat → Bool} {b : Nat} (h : leastS m.os p = some b) : mC m.os p (2 ^ m.os.length) = costL m.os (bits 12 b) := by
  obtain ⟨h1, h2, h3⟩ := leastS_some h
  obtain ⟨g1, g2, g3⟩ := mC_spec m.os p (2 ^ m.os.length)
  have hle := g2 b h2 h1
  have hbd := (chC_bd m hok (some b)).2
  unfold chC at hbd
  rcases g3 with e | ⟨s, hs, hps, e⟩
  · simp only at hbd; omega
  · have := Bf.le (h3 s hs hps)
    unfold costS at this
    omega
theorem mC_bd {m : Mk} (hok : m.ok = true) (p : Nat → Bool) (k : Nat) : 0 ≤ mC m.os p k ∧ mC m.os p k ≤ 1099511627776 := by
  obtain ⟨h1, _, h3⟩ := mC_spec m.os p k
  rcases h3 with e | ⟨s, _, _, e⟩
  · omega
  · have := (chC_bd m hok (some s)).1
    unfold chC at this
    simp only at this
    omega
theorem allN_bit {m : Mk} {x : Nat} (hx : x < m.os.length) : (allN m).testBit x = true := by
  unfold allN
  rw [Nat.testBit_two_pow_sub_one]
  exact decide_eq_true hx
theorem price_eq {m : Mk} (hok : m.ok = true) {a b width : Int} {x : Nat} (hx : x < m.os.length) (hr : wdS m (allN m) a b ≤ width) (he : askE m [] [a, b] [width] = 0) (hre : reachE m a b width = 0) :
    priceF m a b width x = if 1099511627776 ≤ mC m.os (woP m a b width x) (2 ^ m.os.length) then (0, false, 0) else (mC m.os (woP m a b width x) (2 ^ m.os.length) - mC m.os (withP m a b width x) (2 ^ m.os.length), true, 0) := by
  have hw : ∃ u, leastS m.os (withP m a b width x) = some u := by
    cases e : leastS m.os (withP m a b width x) with
    | some u => exact ⟨u, rfl⟩
    | none =>
      have := leastS_none e (allN m) (allN_lt m)
      unfold withP at this
      rw [allN_bit hx, decide_eq_true hr] at this
      cases this
  obtain ⟨u, hu⟩ := hw
  unfold priceF
  rw [if_neg (by rw [he]; simp), if_neg (by simp; omega), if_neg (by rw [hre]; simp)]
  rw [show (x : Int).toNat = x from rfl]
  cases e : leastS m.os (woP m a b width x) with
  | none => simp only; rw [mC_none e, if_pos (Int.le_refl _)]
  | some t =>
    simp only
    rw [mC_some hok e, mC_some hok hu, hu]
    have := (chC_bd m hok (some t)).2
    unfold chC at this
    simp only at this
    rw [if_neg (by omega)]
    rfl

set_option maxHeartbeats 4000000 in
set_option maxRecDepth 100000 in
theorem r_Price (m : Mk) (mv : Value) (a b width o : Int) (w : World) (hm : MkRd w m mv) :
    Calls Try.prog 18 #[mv, .int .i64 a, .int .i64 b, .int .i64 width, .int .i64 o] w fun e w' => e = .returned (.tuple #[.int .i64 (priceF m a b width o).1, .bool (priceF m a b width o).2.1, .int .i64 (priceF m a b width o).2.2]) ∧ Below w.heap.size w w' := by
  have HM := Lib.hid hm
  obtain ⟨ka, kc, oa, oc, rfl, _⟩ := hm
  have hB0 : Below w.heap.size w ((w.alloc (.cells #[.int .i64 m.n, .slice ka m.ks.length kc, .slice oa m.os.length oc] 24)).alloc (.cells #[.int .i64 a, .int .i64 b] 3)) := bal (bal (Below.refl _ _) _) _
  have hcalls := Lib.hid (r_ready m _ [] [a, b] width none (some ⟨w.heap.size + 1, 0, none⟩) 0 2 0 2 _ (HM.out.below hB0) rfl rfl Rd.nil (by simpa using rdI_new (w.alloc (.cells #[.int .i64 m.n, .slice ka m.ks.length kc, .slice oa m.os.length oc] 24)) [a, b] 3 : RdI _ (some ⟨w.heap.size + 1, 0, none⟩) [a, b]) (by decide) (by decide))
  have HM0 := Lib.hid (cal (show (w.alloc (.cells #[.int .i64 m.n, .slice ka m.ks.length kc, .slice oa m.os.length oc] 24)).cell? ⟨w.heap.size, 0, none⟩ = some (.int .i64 m.n) from by simp) (.cells #[.int .i64 a, .int .i64 b] 3))
  have HM1 := Lib.hid (cal (show (w.alloc (.cells #[.int .i64 m.n, .slice ka m.ks.length kc, .slice oa m.os.length oc] 24)).cell? ⟨w.heap.size, 1, none⟩ = some (.slice ka m.ks.length kc) from by simp) (.cells #[.int .i64 a, .int .i64 b] 3))
  have HM2 := Lib.hid (cal (show (w.alloc (.cells #[.int .i64 m.n, .slice ka m.ks.length kc, .slice oa m.os.length oc] 24)).cell? ⟨w.heap.size, 2, none⟩ = some (.slice oa m.os.length oc) from by simp) (.cells #[.int .i64 a, .int .i64 b] 3))
  by_cases he : askE m [] [a, b] [width] ≠ 0
  · have HF := Lib.hid (show priceF m a b width o = (0, false, askE m [] [a, b] [width]) from if_pos he)
    have hne : (askE m [] [a, b] [width] != 0) = true := by rw [bne_iff_ne]; exact he
    have HE := Lib.hid he
    clear he
    go_enter Try.func18, Try.ntmps18
    go_wp2_with fail
    refine hcalls.out.mono ?_
    rintro e w1 ⟨rfl, hb⟩
    have hB := bthen hB0 hb
    have m0 := below_cell hb HM0.out
    have m1 := below_cell hb HM1.out
    have m2 := below_cell hb HM2.out
    clear hcalls HM0 HM1 HM2 hB0 hb
    clear m0 m1 m2
    go_wp2
    go_ret3
    rw [HF.out]
    exact ⟨rfl, hB⟩
  · have he0 : askE m [] [a, b] [width] = 0 := Decidable.of_not_not he
    have HE := Lib.hid he0
    clear he
    obtain ⟨hok, hright, hcl, hsz⟩ := ask_0 he0
    have HOK := Lib.hid hok
    have ho12 := (okM hok).o12
    have hca := List.all_eq_true.1 hcl a (by simp)
    have hcb := List.all_eq_true.1 hcl b (by simp)
    simp only [okC, Bool.and_eq_true, decide_eq_true_eq] at hca hcb
    obtain ⟨a0, a1⟩ := hca
    obtain ⟨b0, b1⟩ := hcb
    clear hcl
    have hwd := okS_iff (by simpa using hsz)
    clear hsz hright hok
    obtain ⟨x, rfl⟩ := Int.eq_ofNat_of_zero_le a0
    obtain ⟨y, rfl⟩ := Int.eq_ofNat_of_zero_le b0
    have t0 : IntKind.i64.wrap ((m.os.length : Int) - 1) = (m.os.length : Int) - 1 := by rw [IntKind.wrap_i64]; omega
    have hos : (m.os.length : Int) ≤ 12 := by omega
    by_cases ho : ¬ (0 ≤ o ∧ o < m.os.length)
    · have HWI := Lib.hid (wiB_no (n := o) (lo := 0) (hi := (m.os.length : Int) - 1) (by omega))
      have HF := Lib.hid (show priceF m x y width o = (0, false, 1) from by unfold priceF; rw [if_neg (by rw [he0]; simp), if_pos ho])
      clear he0
      go_enter Try.func18, Try.ntmps18
      go_wp2_with fail
      refine hcalls.out.mono ?_
      rintro e w1 ⟨rfl, hb⟩
      rw [HE.out]
      have hB := bthen hB0 hb
      have m0 := below_cell hb HM0.out
      have m1 := below_cell hb HM1.out
      have m2 := below_cell hb HM2.out
      clear hcalls HM0 HM1 HM2 hB0 hb
      go_wp2_with fail
      refine (r_within _ _ _ _).mono ?_
      rintro e w' ⟨rfl, rfl⟩
      rw [HWI.out]
      go_wp2
      go_ret3
      rw [HF.out]
      exact ⟨rfl, hB⟩
    · replace ho := Decidable.of_not_not ho
      obtain ⟨z, rfl⟩ := Int.eq_ofNat_of_zero_le ho.1
      have hz : z < m.os.length := by have := ho.2; omega
      have HWI := Lib.hid (wiB_yes (n := (z : Int)) (lo := 0) (hi := (m.os.length : Int) - 1) (by omega) (by omega))
      clear ho
      by_cases hd : wdS m (allN m) x y ≤ width
      · have hr0 : reachE m x y width = 0 := by unfold reachE; rw [if_neg (by rw [he0]; simp), if_pos hd]
        have HW1 := Lib.hid (show decide (wdL m (bits 12 (allN m)) x y ≤ width) = true from by have : wdL m (bits 12 (allN m)) x y = wdS m (allN m) x y := rfl; rw [this]; simp [hd])
        have hsh := shl_len m.os.length ho12
        rw [Nat.min_eq_left (show m.os.length ≤ 64 by omega)] at hsh
        have hpl := pow_len HOK.out
        obtain ⟨N, hN⟩ : ∃ N, N = 2 ^ m.os.length := ⟨_, rfl⟩
        rw [← hN] at hsh hpl
        have HN := Lib.hid hN
        clear hN
        have HF := Lib.hid (show priceF m x y width z = if 1099511627776 ≤ mC m.os (woP m x y width z) N then (0, false, 0) else (mC m.os (woP m x y width z) N - mC m.os (withP m x y width z) N, true, 0) from by rw [price_eq HOK.out hz hd he0 hr0, HN.out])
        clear hr0 he0 hd
        go_enter Try.func18, Try.ntmps18
        go_wp2_with fail
        refine hcalls.out.mono ?_
        rintro e w1 ⟨rfl, hb⟩
        rw [HE.out]
        have hB := bthen hB0 hb
        have m0 := below_cell hb HM0.out
        have m1 := below_cell hb HM1.out
        have m2 := below_cell hb HM2.out
        clear hcalls HM0 HM1 HM2 hB0 hb
        go_wp2_with fail
        refine (r_within _ _ _ _).mono ?_
        rintro e w' ⟨rfl, rfl⟩
        rw [HWI.out]
        go_wp2_with fail
        go_region_held3 (fun w' => w'.cell? ⟨w.heap.size, 0, none⟩ = some (.int .i64 m.n) ∧ w'.cell? ⟨w.heap.size, 1, none⟩ = some (.slice ka m.ks.length kc) ∧ w'.cell? ⟨w.heap.size, 2, none⟩ = some (.slice oa m.os.length oc)) (first | go_keep | (go_split_ands; exact ⟨below_cell hb3 ‹_›, below_cell hb3 ‹_›, below_cell hb3 ‹_›⟩) | (go_split_ands; exact ⟨below_cell hb2 ‹_›, below_cell hb2 ‹_›, below_cell hb2 ‹_›⟩) | (go_split_ands; exact ⟨below_cell hb1 ‹_›, below_cell hb1 ‹_›, below_cell hb1 ‹_›⟩) | fail)
          (first
            | (go_at_call 67; refine (r_whole m _ _ (by exact HM.out.below hB.drew) HOK.out).mono ?_; rintro e w2 ⟨rfl, hb1⟩)
            | (go_at_call 66; refine (r_List (allN m) m _ _ (by exact HM.out.below (hB.drew.trans (hb1.mono hB.drew.size))) ho12 (allN_lt m)).mono ?_; rintro e w3 ⟨v3, rfl, hown3, hb2⟩; obtain ⟨la3, lc3, hv3, hrd3⟩ := own_rdI hown3; subst hv3; clear hown3)
            | (go_at_call 65; refine (r_reaches m _ (bits 12 (allN m)) _ _ _ x y width width _ (by exact HM.out.below (hB.drew.trans ((bthen hb1 hb2).mono hB.drew.size))) rfl hrd3 HOK.out (bits_mem (allN_lt m)) (bits_len 12 _) a1 b1 (fun z => by omega)).mono ?_; rintro e w4 ⟨rfl, hb3⟩; rw [HW1.out]))
        have hbz := (Below.refl _ _).drew.trans (bthen (bthen hb1 hb2) hb3)
        replace m0 := below_cell hb3 (below_cell hb2 (below_cell hb1 (cdw m0)))
        replace m1 := below_cell hb3 (below_cell hb2 (below_cell hb1 (cdw m1)))
        replace m2 := below_cell hb3 (below_cell hb2 (below_cell hb1 (cdw m2)))
        have hBz := bthen hB hbz
        clear hb1 hb2 hb3 hrd3
        go_wp2_with fail
        clear hbz hB
        go_loopw [14, 15, 16] (fun u v i wr => ∃ k : Nat, k ≤ N ∧ i = .int .i64 k ∧ u = .int .i64 (mC m.os (withP m x y width z) k) ∧ v = .int .i64 (mC m.os (woP m x y width z) k) ∧ wr.cell? ⟨w.heap.size, 0, none⟩ = some (.int .i64 m.n) ∧ wr.cell? ⟨w.heap.size, 1, none⟩ = some (.slice ka m.ks.length kc) ∧ wr.cell? ⟨w.heap.size, 2, none⟩ = some (.slice oa m.os.length oc) ∧ Below w.heap.size w wr) (fun _ _ i _ => N - (intOf i).toNat)
        case atStart => exact ⟨0, Nat.zero_le _, rfl, rfl, rfl, m0, m1, m2, hBz⟩
        case round =>
          clear m0 m1 m2 hBz
          obtain ⟨k, hk1, rfl, rfl, rfl, m0, m1, m2, hB⟩ := hrel
          by_cases hlt : k < N
          · have hkN : Hid (k < 2 ^ m.os.length) := Lib.hid (by rw [← HN.out]; exact hlt)
            obtain ⟨C, hC⟩ : ∃ C, Hid (C = costL m.os (bits 12 k)) := ⟨_, Lib.hid rfl⟩
            cases hp : decide (wdS m k x y ≤ width) with
            | false =>
              have HPW := Lib.hid (show withP m x y width z k = false from by unfold withP; rw [hp, Bool.and_false])
              have HPO := Lib.hid (show woP m x y width z k = false from by unfold woP; rw [hp, Bool.and_false])
              have HP := Lib.hid (show decide (wdL m (bits 12 k) x y ≤ width) = false from hp)
              clear hp
              go_wp2_with fail
              refine (r_List k m _ _ (by exact HM.out.below hB) ho12 hkN.out).mono ?_
              rintro e w2 ⟨v2, rfl, hown, hb1⟩
              obtain ⟨la, lc, hv2, hrd⟩ := own_rdI hown
              subst hv2
              have hB2 := bthen hB hb1
              replace m0 := below_cell hb1 m0
              replace m1 := below_cell hb1 m1
              replace m2 := below_cell hb1 m2
              have HRD := Lib.hid hrd
              clear hown hb1 hB hrd
              go_wp2_with fail
              refine (r_reaches m _ (bits 12 k) _ _ _ x y width width _ (by exact HM.out.below hB2) rfl HRD.out HOK.out (bits_mem hkN.out) (bits_len 12 _) a1 b1 (fun z => by omega)).mono ?_
              rintro e w3 ⟨rfl, hb1⟩
              rw [HP.out]
              have hB3 := bthen hB2 hb1
              replace m0 := below_cell hb1 m0
              replace m1 := below_cell hb1 m1
              replace m2 := below_cell hb1 m2
              replace HRD := Lib.hid (HRD.out.below hb1)
              clear hb1 hB2
              go_wp2
              go_roundw
              case rel => exact ⟨k + 1, by omega, by go_num, by rw [mC, HPW.out]; simp, by rw [mC, HPO.out]; simp, m0, m1, m2, hB3⟩
              case measure => simp [intOf]; omega
            | true =>
              cases hbit : k.testBit z with
              | true =>
                have hT : (Go.bits .and .i64 ((k : Int) / 2 ^ z) 1 == 1) = true := by rw [bit_test k z (by omega), hbit]
                have HPW := Lib.hid (show withP m x y width z k = true from by unfold withP; rw [hbit]; exact (by rw [Bool.true_and]; exact hp))
                have HPO := Lib.hid (show woP m x y width z k = false from by unfold woP; rw [hbit]; exact rfl)
                clear hbit
                have HP := Lib.hid (show decide (wdL m (bits 12 k) x y ≤ width) = true from hp)
                clear hp
                go_wp2_with fail
                refine (r_List k m _ _ (by exact HM.out.below hB) ho12 hkN.out).mono ?_
                rintro e w2 ⟨v2, rfl, hown, hb1⟩
                obtain ⟨la, lc, hv2, hrd⟩ := own_rdI hown
                subst hv2
                have hB2 := bthen hB hb1
                replace m0 := below_cell hb1 m0
                replace m1 := below_cell hb1 m1
                replace m2 := below_cell hb1 m2
                have HRD := Lib.hid hrd
                clear hown hb1 hB hrd
                go_wp2_with fail
                refine (r_reaches m _ (bits 12 k) _ _ _ x y width width _ (by exact HM.out.below hB2) rfl HRD.out HOK.out (bits_mem hkN.out) (bits_len 12 _) a1 b1 (fun z => by omega)).mono ?_
                rintro e w3 ⟨rfl, hb1⟩
                rw [HP.out]
                have hB3 := bthen hB2 hb1
                replace m0 := below_cell hb1 m0
                replace m1 := below_cell hb1 m1
                replace m2 := below_cell hb1 m2
                replace HRD := Lib.hid (HRD.out.below hb1)
                clear hb1 hB2
                go_wp2_with fail
                refine (r_cost m _ (bits 12 k) _ _ _ _ (by exact HM.out.below hB3) rfl HRD.out HOK.out (bits_mem hkN.out) (bits_len 12 k)).mono ?_
                rintro e w4 ⟨rfl, hb1⟩
                rw [← hC.out]
                have hB4 := bthen hB3 hb1
                replace m0 := below_cell hb1 m0
                replace m1 := below_cell hb1 m1
                replace m2 := below_cell hb1 m2
                replace HRD := Lib.hid (HRD.out.below hb1)
                clear hb1 hB3
                by_cases hmn : C < mC m.os (withP m x y width z) k
                · go_wp2
                  go_roundw
                  case rel => exact ⟨k + 1, by omega, by go_num, by rw [mC, HPW.out]; rw [if_pos rfl, ← hC.out, mn_lt hmn], by rw [mC, HPO.out]; simp, m0, m1, m2, hB4⟩
                  case measure => simp [intOf]; omega
                · go_wp2
                  go_roundw
                  case rel => exact ⟨k + 1, by omega, by go_num, by rw [mC, HPW.out]; rw [if_pos rfl, ← hC.out, mn_ge (by omega)], by rw [mC, HPO.out]; simp, m0, m1, m2, hB4⟩
                  case measure => simp [intOf]; omega
              | false =>
                have hT : (Go.bits .and .i64 ((k : Int) / 2 ^ z) 1 == 1) = false := by rw [bit_test k z (by omega), hbit]
                have HPW := Lib.hid (show withP m x y width z k = false from by unfold withP; rw [hbit]; exact rfl)
                have HPO := Lib.hid (show woP m x y width z k = true from by unfold woP; rw [hbit]; exact (by rw [Bool.not_false, Bool.true_and]; exact hp))
                clear hbit
                have HP := Lib.hid (show decide (wdL m (bits 12 k) x y ≤ width) = true from hp)
                clear hp
                go_wp2_with fail
                refine (r_List k m _ _ (by exact HM.out.below hB) ho12 hkN.out).mono ?_
                rintro e w2 ⟨v2, rfl, hown, hb1⟩
                obtain ⟨la, lc, hv2, hrd⟩ := own_rdI hown
                subst hv2
                have hB2 := bthen hB hb1
                replace m0 := below_cell hb1 m0
                replace m1 := below_cell hb1 m1
                replace m2 := below_cell hb1 m2
                have HRD := Lib.hid hrd
                clear hown hb1 hB hrd
                go_wp2_with fail
                refine (r_reaches m _ (bits 12 k) _ _ _ x y width width _ (by exact HM.out.below hB2) rfl HRD.out HOK.out (bits_mem hkN.out) (bits_len 12 _) a1 b1 (fun z => by omega)).mono ?_
                rintro e w3 ⟨rfl, hb1⟩
                rw [HP.out]
                have hB3 := bthen hB2 hb1
                replace m0 := below_cell hb1 m0
                replace m1 := below_cell hb1 m1
                replace m2 := below_cell hb1 m2
                replace HRD := Lib.hid (HRD.out.below hb1)
                clear hb1 hB2
                go_wp2_with fail
                refine (r_cost m _ (bits 12 k) _ _ _ _ (by exact HM.out.below hB3) rfl HRD.out HOK.out (bits_mem hkN.out) (bits_len 12 k)).mono ?_
                rintro e w4 ⟨rfl, hb1⟩
                rw [← hC.out]
                have hB4 := bthen hB3 hb1
                replace m0 := below_cell hb1 m0
                replace m1 := below_cell hb1 m1
                replace m2 := below_cell hb1 m2
                replace HRD := Lib.hid (HRD.out.below hb1)
                clear hb1 hB3
                by_cases hmn : C < mC m.os (woP m x y width z) k
                · go_wp2
                  go_roundw
                  case rel => exact ⟨k + 1, by omega, by go_num, by rw [mC, HPW.out]; simp, by rw [mC, HPO.out]; rw [if_pos rfl, ← hC.out, mn_lt hmn], m0, m1, m2, hB4⟩
                  case measure => simp [intOf]; omega
                · go_wp2
                  go_roundw
                  case rel => exact ⟨k + 1, by omega, by go_num, by rw [mC, HPW.out]; simp, by rw [mC, HPO.out]; rw [if_pos rfl, ← hC.out, mn_ge (by omega)], m0, m1, m2, hB4⟩
                  case measure => simp [intOf]; omega
          · obtain rfl : k = N := by omega
            have d1 := mC_bd HOK.out (withP m x y width z) k
            have d2 := mC_bd HOK.out (woP m x y width z) k
            obtain ⟨d3, d4⟩ := d1
            obtain ⟨d5, d6⟩ := d2
            by_cases hmn : 1099511627776 ≤ mC m.os (woP m x y width z) k
            · go_wp2
              go_ret3
              rw [HF.out, if_pos hmn]
              exact ⟨rfl, hB⟩
            · go_wp2
              go_ret3
              rw [HF.out, if_neg (by omega)]
              exact ⟨rfl, hB⟩
      · have hr0 : reachE m x y width = 4 := by unfold reachE; rw [if_neg (by rw [he0]; simp), if_neg hd]
        have HW1 := Lib.hid (show decide (wdL m (bits 12 (allN m)) x y ≤ width) = false from by have : wdL m (bits 12 (allN m)) x y = wdS m (allN m) x y := rfl; rw [this]; simp [hd])
        have HF := Lib.hid (show priceF m x y width z = (0, false, 4) from by unfold priceF; rw [if_neg (by rw [he0]; simp), if_neg (by simp; omega), if_pos (by rw [hr0]; decide), hr0])
        clear hr0 he0 hd
        go_enter Try.func18, Try.ntmps18
        go_wp2_with fail
        refine hcalls.out.mono ?_
        rintro e w1 ⟨rfl, hb⟩
        rw [HE.out]
        have hB := bthen hB0 hb
        have m0 := below_cell hb HM0.out
        have m1 := below_cell hb HM1.out
        have m2 := below_cell hb HM2.out
        clear hcalls HM0 HM1 HM2 hB0 hb
        go_wp2_with fail
        refine (r_within _ _ _ _).mono ?_
        rintro e w' ⟨rfl, rfl⟩
        rw [HWI.out]
        go_wp2_with fail
        go_region_held3 (fun w' => w'.cell? ⟨w.heap.size, 0, none⟩ = some (.int .i64 m.n) ∧ w'.cell? ⟨w.heap.size, 1, none⟩ = some (.slice ka m.ks.length kc) ∧ w'.cell? ⟨w.heap.size, 2, none⟩ = some (.slice oa m.os.length oc)) (first | go_keep | (go_split_ands; exact ⟨below_cell hb3 ‹_›, below_cell hb3 ‹_›, below_cell hb3 ‹_›⟩) | (go_split_ands; exact ⟨below_cell hb2 ‹_›, below_cell hb2 ‹_›, below_cell hb2 ‹_›⟩) | (go_split_ands; exact ⟨below_cell hb1 ‹_›, below_cell hb1 ‹_›, below_cell hb1 ‹_›⟩) | fail)
          (first
            | (go_at_call 67; refine (r_whole m _ _ (by exact HM.out.below hB.drew) HOK.out).mono ?_; rintro e w2 ⟨rfl, hb1⟩)
            | (go_at_call 66; refine (r_List (allN m) m _ _ (by exact HM.out.below (hB.drew.trans (hb1.mono hB.drew.size))) ho12 (allN_lt m)).mono ?_; rintro e w3 ⟨v3, rfl, hown3, hb2⟩; obtain ⟨la3, lc3, hv3, hrd3⟩ := own_rdI hown3; subst hv3; clear hown3)
            | (go_at_call 65; refine (r_reaches m _ (bits 12 (allN m)) _ _ _ x y width width _ (by exact HM.out.below (hB.drew.trans ((bthen hb1 hb2).mono hB.drew.size))) rfl hrd3 HOK.out (bits_mem (allN_lt m)) (bits_len 12 _) a1 b1 (fun z => by omega)).mono ?_; rintro e w4 ⟨rfl, hb3⟩; rw [HW1.out]))
        have hbz := (Below.refl _ _).drew.trans (bthen (bthen hb1 hb2) hb3)
        replace m0 := below_cell hb3 (below_cell hb2 (below_cell hb1 (cdw m0)))
        replace m1 := below_cell hb3 (below_cell hb2 (below_cell hb1 (cdw m1)))
        replace m2 := below_cell hb3 (below_cell hb2 (below_cell hb1 (cdw m2)))
        have hBz := bthen hB hbz
        clear hb1 hb2 hb3 hrd3
        go_wp2
        go_ret3
        rw [HF.out]
        exact ⟨rfl, hBz⟩

end Go.Proofs.Ytjdldmecjhddnaa
