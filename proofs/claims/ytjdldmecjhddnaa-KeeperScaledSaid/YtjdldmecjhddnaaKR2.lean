/- The contracts of the reference's Check, ready. -/
import Derived.Test.YtjdldmecjhddnaaKR1
namespace Go.Proofs.Ytjdldmecjhddnaa
open Go.RowKit
set_option linter.unusedVariables false
set_option linter.unusedSimpArgs false

set_option maxHeartbeats 4000000 in
set_option maxRecDepth 100000 in
theorem r_Check (m : Mk) (v : Value) (w : World) (hm : MkRd w m v) :
    Calls Try.prog 39 #[v] w fun e w' => e = .returned (.int .i64 (chkE m)) ∧ Below w.heap.size w w' := by
  obtain ⟨ka, kc, oa, oc, rfl, hk, ho, hkl, hol⟩ := hm
  have HK := Lib.hid hk
  have HO := Lib.hid ho
  clear hk ho
  cases hw : wiB m.n 2 8 with
  | false =>
    have HW := Lib.hid hw
    go_enter Try.func39, Try.ntmps39
    go_wp2_with (go_at_call 72; refine (r_within _ _ _ _).mono ?_; rintro e w' ⟨rfl, rfl⟩)
    go_ret
    exact ⟨ret_int (chk_dims (fun h => by have := wiB_yes h.1 h.2.1; rw [HW.out] at this; cases this)).symm, bal (Below.refl _ _) _⟩
  | true =>
    obtain ⟨g1, g2⟩ := wiB_iff.1 hw
    by_cases hok : m.ks.length ≤ 24 ∧ m.os.length ≤ 12
    · obtain ⟨g3, g4⟩ := hok
      go_enter Try.func39, Try.ntmps39
      go_wp2_with (go_at_call 72; refine (r_within _ _ _ _).mono ?_; rintro e w' ⟨rfl, rfl⟩)
      go_loopw [3] (fun i wr => ∃ k : Nat, k ≤ m.ks.length ∧ i = .int .i64 k ∧ Hid (∀ j x, m.ks[j]? = some x → j < k → isOff x m.n 0 = true) ∧ wr.cell? ⟨w.heap.size, 0, none⟩ = some (.int .i64 m.n) ∧
         wr.cell? ⟨w.heap.size, 1, none⟩ = some (.slice ka m.ks.length kc) ∧ wr.cell? ⟨w.heap.size, 2, none⟩ = some (.slice oa m.os.length oc) ∧ Below w.heap.size w wr) (fun i _ => m.ks.length - (intOf i).toNat)
      case atStart => exact ⟨0, Nat.zero_le _, rfl, Lib.hid (fun j x _ h => absurd h (Nat.not_lt_zero _)), by simp, by simp, by simp, (Below.refl _ _).alloc (Nat.le_refl _) _⟩
      case round =>
        obtain ⟨k, hk1, rfl, hall, hc0, hc1, hc2, hB⟩ := hrel
        have hs1 : w.heap.size < wr.heap.size := World.block_lt_of_cell? wr _ hc1
        by_cases hlt : k < m.ks.length
        · obtain ⟨b, off, x, rfl, hx, q0, q1, q2, q3⟩ := (HK.out.below hB).ato hlt
          have HX := Lib.hid hx
          clear hx
          cases hof : isOff x m.n 0
          all_goals
            have HOF := Lib.hid hof
            go_wp2
            go_region_held3 (fun w' => w'.cell? ⟨w.heap.size, 0, none⟩ = some (.int .i64 m.n) ∧ w'.cell? ⟨w.heap.size, 1, none⟩ = some (.slice (some ⟨b, off, none⟩) m.ks.length kc) ∧ w'.cell? ⟨b, off + k * 4, none⟩ = some (.int .i64 x.A) ∧ w'.cell? ⟨b, off + k * 4 + 1, none⟩ = some (.int .i64 x.B) ∧ w'.cell? ⟨b, off + k * 4 + 2, none⟩ = some (.int .i64 x.C) ∧ w'.cell? ⟨b, off + k * 4 + 3, none⟩ = some (.int .i64 x.W)) (first | go_keep | (go_split_ands; exact ⟨below_cell hb ‹_›, below_cell hb ‹_›, below_cell hb ‹_›, below_cell hb ‹_›, below_cell hb ‹_›, below_cell hb ‹_›⟩) | fail)
              (first | (go_at_call 88; refine (r_isOffer x _ _ g1 g2 _).mono ?_; rintro e w1 ⟨rfl, hb⟩))
            clear hof
          · go_wp2
            go_ret
            exact ⟨ret_int (chk_ks HX.out HOF.out).symm, bthen hB.drew hb⟩
          · go_wp2
            go_roundw
            case rel =>
              refine ⟨k + 1, by omega, by go_num, Lib.hid (fun j y hy hj => ?_), below_cell hb (cdw hc0), below_cell hb (cdw hc1), below_cell hb (cdw hc2), bthen hB.drew hb⟩
              rcases Nat.lt_or_ge j k with h' | h'
              · exact hall.out j y hy h'
              · obtain rfl : j = k := by omega
                rw [HX.out] at hy; cases hy; exact HOF.out
            case measure => simp [intOf]; omega
        · obtain ⟨w2, rfl⟩ : ∃ w2 : World, w2 = wr := ⟨_, rfl⟩
          have hB0 := hB
          have hall0 := hall
          have hk0 := hk1
          clear hB hall hk1
          go_wp2_with fail
          clear hc1
          go_loopw [4] (fun i wr => ∃ k : Nat, k ≤ m.os.length ∧ i = .int .i64 k ∧ Hid (∀ j x, m.os[j]? = some x → j < k → isOff x m.n 10000 = true) ∧ wr.cell? ⟨w.heap.size, 0, none⟩ = some (.int .i64 m.n) ∧ wr.cell? ⟨w.heap.size, 2, none⟩ = some (.slice oa m.os.length oc) ∧
            Below w.heap.size w wr) (fun i _ => m.os.length - (intOf i).toNat)
          case atStart => exact ⟨0, Nat.zero_le _, rfl, Lib.hid (fun j x _ h => absurd h (Nat.not_lt_zero _)), hc0, hc2, hB0⟩
          case round =>
            clear hc0 hc2 hs1
            obtain ⟨k2, hk2, rfl, hall, hc0, hc2, hB⟩ := hrel
            have hs1 : w.heap.size < wr.heap.size := World.block_lt_of_cell? wr _ hc0
            by_cases hlt2 : k2 < m.os.length
            · obtain ⟨b, off, x, rfl, hx, q0, q1, q2, q3⟩ := (HO.out.below hB).ato hlt2
              have HX := Lib.hid hx
              clear hx
              cases hof : isOff x m.n 10000
              all_goals
                have HOF := Lib.hid hof
                go_wp2
                go_region_held3 (fun w' => w'.cell? ⟨w.heap.size, 0, none⟩ = some (.int .i64 m.n) ∧ w'.cell? ⟨w.heap.size, 2, none⟩ = some (.slice (some ⟨b, off, none⟩) m.os.length oc) ∧ w'.cell? ⟨b, off + k2 * 4, none⟩ = some (.int .i64 x.A) ∧ w'.cell? ⟨b, off + k2 * 4 + 1, none⟩ = some (.int .i64 x.B) ∧ w'.cell? ⟨b, off + k2 * 4 + 2, none⟩ = some (.int .i64 x.C) ∧ w'.cell? ⟨b, off + k2 * 4 + 3, none⟩ = some (.int .i64 x.W)) (first | go_keep | (go_split_ands; exact ⟨below_cell hb ‹_›, below_cell hb ‹_›, below_cell hb ‹_›, below_cell hb ‹_›, below_cell hb ‹_›, below_cell hb ‹_›⟩) | fail)
                  (first | (go_at_call 88; refine (r_isOffer x _ _ g1 g2 _).mono ?_; rintro e w1 ⟨rfl, hb⟩))
                clear hof
              · go_wp2
                go_ret
                exact ⟨ret_int (chk_os HX.out HOF.out).symm, bthen hB.drew hb⟩
              · go_wp2
                go_roundw
                case rel =>
                  refine ⟨k2 + 1, by omega, by go_num, Lib.hid (fun j y hy hj => ?_), below_cell hb (cdw hc0), below_cell hb (cdw hc2), bthen hB.drew hb⟩
                  rcases Nat.lt_or_ge j k2 with h' | h'
                  · exact hall.out j y hy h'
                  · obtain rfl : j = k2 := by omega
                    rw [HX.out] at hy; cases hy; exact HOF.out
                case measure => simp [intOf]; omega
            · go_wp2_with fail
              go_ret
              exact ⟨ret_int (chk_good g1 g2 g3 g4 (fun j x hx hj => hall0.out j x hx (by omega)) (fun j x hx hj => hall.out j x hx (by omega))).symm, hB⟩
    · go_enter Try.func39, Try.ntmps39
      go_wp2_with (go_at_call 72; refine (r_within _ _ _ _).mono ?_; rintro e w' ⟨rfl, rfl⟩)
      all_goals first
        | (exfalso; omega)
        | (go_ret; exact ⟨ret_int (chk_dims (fun h => hok ⟨h.2.2.1, h.2.2.2⟩)).symm, (Below.refl _ _).alloc (Nat.le_refl _) _⟩)

set_option maxHeartbeats 4000000 in
set_option maxRecDepth 100000 in
theorem r_ready (m : Mk) (mv : Value) (l cl : List Int) (x : Int) (la ca : Option Addr) (ln cn lc cc : Nat) (w : World) (hm : MkRd w m mv) (hln : l.length = ln) (hcn : cl.length = cn) (hl : RdI w la l) (hc : RdI w ca cl)
    (nl : ln ≤ 140737488355328) (ncl : cn ≤ 140737488355328) :
    Calls Try.prog 64 #[mv, .slice la ln lc, .int .i64 x, .slice ca cn cc] w fun e w' => e = .returned (.int .i64 (askE m l cl [x])) ∧ Below w.heap.size w w' := by
  subst hln hcn
  have HM := Lib.hid hm
  obtain ⟨ka, kc, oa, oc, rfl, _⟩ := hm
  have hB0 : Below w.heap.size w (w.alloc (.cells #[.int .i64 m.n, .slice ka m.ks.length kc, .slice oa m.os.length oc] 24)) := bal (Below.refl _ _) _
  have HL := Lib.hid hl
  have HC := Lib.hid hc
  clear hl hc
  cases hok : m.ok with
  | false =>
    have HCK := Lib.hid (chkE_no hok)
    have HA := Lib.hid (ask_m (l := l) (cl := cl) (sz := [x]) hok)
    clear hok
    go_enter Try.func64, Try.ntmps64
    go_wp2_with fail
    refine (r_Check m _ _ (HM.out.below hB0)).mono ?_
    rintro e w1 ⟨rfl, hb⟩
    rw [HCK.out]
    go_wp2
    go_ret
    exact ⟨ret_int HA.out.symm, bthen hB0 hb⟩
  | true =>
    have HCK : Hid (chkE m = 0) := Lib.hid (by simp [chkE, hok])
    have HOK := Lib.hid hok
    have n2 := (okM hok).n2
    have n8 := (okM hok).n8
    clear hok
    have M0 := Lib.hid (show (w.alloc (.cells #[.int .i64 m.n, .slice ka m.ks.length kc, .slice oa m.os.length oc] 24)).cell? ⟨w.heap.size, 0, none⟩ = some (.int .i64 m.n) from by simp)
    have M1 := Lib.hid (show (w.alloc (.cells #[.int .i64 m.n, .slice ka m.ks.length kc, .slice oa m.os.length oc] 24)).cell? ⟨w.heap.size, 1, none⟩ = some (.slice ka m.ks.length kc) from by simp)
    have M2 := Lib.hid (show (w.alloc (.cells #[.int .i64 m.n, .slice ka m.ks.length kc, .slice oa m.os.length oc] 24)).cell? ⟨w.heap.size, 2, none⟩ = some (.slice oa m.os.length oc) from by simp)
    cases hright : right m.os.length l with
    | false =>
      have HR := Lib.hid hright
      clear hright
      go_enter Try.func64, Try.ntmps64
      go_wp2_with fail
      refine (r_Check m _ _ (HM.out.below hB0)).mono ?_
      rintro e w1 ⟨rfl, hb⟩
      rw [HCK.out]
      have m0 := below_cell hb M0.out
      have m1 := below_cell hb M1.out
      have m2 := below_cell hb M2.out
      have hB1 := bthen hB0 hb
      clear hb hB0
      go_wp2_with fail
      refine (r_Right m _ l _ _ _ (by exact HM.out.below hB1) (HL.out.below hB1) nl).mono ?_
      rintro e w2 ⟨rfl, hb⟩
      rw [HR.out]
      go_wp2
      go_ret
      exact ⟨ret_int (ask_r HOK.out HR.out).symm, bthen hB1 hb⟩
    | true =>
      have HR := Lib.hid hright
      clear hright
      go_enter Try.func64, Try.ntmps64
      go_wp2_with fail
      refine (r_Check m _ _ (HM.out.below hB0)).mono ?_
      rintro e w1 ⟨rfl, hb⟩
      rw [HCK.out]
      have m0 := below_cell hb M0.out
      have m1 := below_cell hb M1.out
      have m2 := below_cell hb M2.out
      have hB1 := bthen hB0 hb
      clear hb hB0
      go_wp2_with fail
      refine (r_Right m _ l _ _ _ (by exact HM.out.below hB1) (HL.out.below hB1) nl).mono ?_
      rintro e w2 ⟨rfl, hb⟩
      rw [HR.out]
      replace m0 := below_cell hb m0
      have hB2 := bthen hB1 hb
      have HB2 := Lib.hid hB2
      clear hb hB1 m1 m2 hB2
      go_wp2_with fail
      go_loopw [10] (fun i wr => ∃ k : Nat, k ≤ cl.length ∧ i = .int .i64 k ∧ Hid (∀ j c, cl[j]? = some c → j < k → okC m.n c = true) ∧ wr.cell? ⟨w.heap.size, 0, none⟩ = some (.int .i64 m.n) ∧ Below w.heap.size w wr) (fun i _ => cl.length - (intOf i).toNat)
      case atStart => exact ⟨0, Nat.zero_le _, rfl, Lib.hid (fun j c _ h => absurd h (Nat.not_lt_zero _)), m0, HB2.out⟩
      case round =>
        clear m0
        obtain ⟨k, hk1, rfl, hall, m0, hB⟩ := hrel
        by_cases hlt : k < cl.length
        · obtain ⟨b, off, y, rfl, hy, q0⟩ := (HC.out.below hB).ati hlt
          have HY := Lib.hid hy
          clear hy
          have t0 : IntKind.i64.wrap (m.n - 1) = m.n - 1 := by rw [IntKind.wrap_i64]; omega
          cases hw : wiB y 0 (m.n - 1) with
          | false =>
            have HW := Lib.hid hw
            go_wp2
            go_quiet ((go_at_call 72; exact Calls.quiet_of_same (Calls.mono (r_within _ _ _ _) (fun _ _ ⟨he, hw⟩ => ⟨he, hw.symm⟩))))
            go_wp2
            go_ret
            refine ⟨ret_int (ask_c HOK.out (all_no HY.out (okC_no (fun h => ?_)))).symm, bdrN hB _⟩
            have : wiB y 0 (m.n - 1) = true := wiB_yes h.1 (by omega)
            rw [HW.out] at this; cases this
          | true =>
            have HW := Lib.hid (wiB_iff.1 hw)
            go_wp2
            go_quiet ((go_at_call 72; exact Calls.quiet_of_same (Calls.mono (r_within _ _ _ _) (fun _ _ ⟨he, hw⟩ => ⟨he, hw.symm⟩))))
            go_wp2
            go_roundw
            case rel =>
              refine ⟨k + 1, by omega, by go_num, Lib.hid (fun j c hc hj => ?_), m0, bdrN hB _⟩
              rcases Nat.lt_or_ge j k with h' | h'
              · exact hall.out j c hc h'
              · obtain rfl : j = k := by omega
                rw [HY.out] at hc; cases hc
                have := HW.out
                exact okC_mk this.1 (by omega)
            case measure => simp [intOf]; omega
        · obtain rfl : k = cl.length := by omega
          have HALL := Lib.hid (all_yes hall.out)
          cases hw : wiB x 0 16777216
          all_goals
            have HW := Lib.hid hw
            go_wp2_with (go_at_call 72; refine (r_within _ _ _ _).mono ?_; rintro e w' ⟨rfl, rfl⟩)
            go_ret
          · refine ⟨ret_int (ask_s HOK.out ?_).symm, hB⟩
            simp only [List.all_cons, List.all_nil, Bool.and_true]
            refine okS_no (fun h => ?_)
            have := wiB_yes h.1 h.2
            rw [HW.out] at this; cases this
          · refine ⟨ret_int (ask_ok HOK.out HR.out HALL.out ?_).symm, hB⟩
            have := wiB_iff.1 HW.out
            simp only [List.all_cons, List.all_nil, Bool.and_true]
            exact okS_mk this.1 this.2
end Go.Proofs.Ytjdldmecjhddnaa
