/- The contracts of keeper.asked, setOf, (set).list, (set).cost. -/
import Derived.Test.YtjdldmecjhddnaaK1
namespace Go.Proofs.Ytjdldmecjhddnaa
open Go.RowKit
set_option linter.unusedVariables false
set_option linter.unusedSimpArgs false

theorem info_int : (Try.prog.info? 3).map (fun i => (i.zero, i.size, i.bytes)) = some (some (.int .i64 0), 1, 8) := by kernel_rfl

set_option maxHeartbeats 1000000 in
set_option maxRecDepth 100000 in
theorem k_list (s : Nat) (hs : s < 4096) (w : World) :
    Calls Try.prog 106 #[.int .i64 s] w fun e w' => ∃ v, e = .returned v ∧ w'.ownsRow w.heap.size 3 1 v (bits 12 s).length ((bits 12 s).map (Value.int .i64)) ∧ Below w.heap.size w w' := by
  go_enter Try.func106, Try.ntmps106
  go_wp2_with fail
  go_loopw [2, 4] (fun v i wr => ∃ k : Nat, k ≤ 12 ∧ i = .int .i64 k ∧ wr.ownsRow w.heap.size 3 1 v (bits k s).length ((bits k s).map (Value.int .i64)) ∧ Below w.heap.size w wr) (fun _ i _ => 12 - (intOf i).toNat)
  case atStart => exact ⟨0, Nat.zero_le _, rfl, World.ownsRow_nil _ _ _ _, Below.refl _ _⟩
  case round =>
    obtain ⟨k, hk, rfl, hown, hB⟩ := hrel
    by_cases hlt : k < 12
    · have hl := bits_len k s
      have hbs := Lib.hid (bits_succ k s)
      cases ht : s.testBit k with
      | true =>
        have hT : (Go.bits .and .i64 ((s : Int) / 2 ^ k) 1 == 1) = true := by rw [bit_test s k (by omega), ht]
        have HT := Lib.hid ht
        clear ht
        go_wp2_with (at_builtin; refine ap1 rfl _ _ 27 rfl w.heap.size 3 (.int .i64 0) 1 8 info_int Try.underlying27 rfl (by decide) (by decide) _ _ _ rfl hown [.int .i64 k] rfl rfl rfl (by omega) hB.size ?_; intro v' w1 hown1 hgr hat hnn)
        go_roundw
        case rel => exact ⟨k + 1, by omega, by go_num, by rw [hbs.out, HT.out]; simpa using hown1, hB.grown hgr hB.size (fun j e => (hown.lt j e).1)⟩
        case measure => simp [intOf]; omega
      | false =>
        have hT : (Go.bits .and .i64 ((s : Int) / 2 ^ k) 1 == 1) = false := by rw [bit_test s k (by omega), ht]
        have HT := Lib.hid ht
        clear ht
        go_wp2
        go_roundw
        case rel => exact ⟨k + 1, by omega, by go_num, by rw [hbs.out, HT.out]; simpa using hown, hB⟩
        case measure => simp [intOf]; omega
    · obtain rfl : k = 12 := by omega
      go_wp2
      go_ret
      exact ⟨_, rfl, hown, hB⟩

set_option maxHeartbeats 1000000 in
set_option maxRecDepth 100000 in
theorem k_setOf (l : List Int) (a : Option Addr) (c : Nat) (w : World) (hl : RdI w a l) (hr : ∀ x ∈ l, 0 ≤ x ∧ x < 12) (hlen : l.length ≤ 12) :
    Calls Try.prog 84 #[.slice a l.length c] w fun e w' => e = .returned (.int .i64 (setN l)) ∧ w = w' := by
  have HR := Lib.hid hr
  clear hr
  go_enter Try.func84, Try.ntmps84
  go_wp2_with fail
  go_loop [2, 7] (fun v i => ∃ k : Nat, k ≤ l.length ∧ i = .int .i64 k ∧ v = .int .i64 (setN (l.take k))) (fun _ i => l.length - (intOf i).toNat)
  case atStart => exact ⟨0, Nat.zero_le _, rfl, rfl⟩
  case round =>
    obtain ⟨k, hk, rfl, rfl⟩ := hrel
    by_cases hlt : k < l.length
    · obtain ⟨b, off, x, rfl, hx, hc⟩ := hl.ati hlt
      obtain ⟨h0, h12⟩ := HR.out x (List.mem_of_getElem? hx)
      obtain ⟨y, rfl⟩ := Int.eq_ofNat_of_zero_le h0
      have HX := Lib.hid hx
      clear hx
      have HS := Lib.hid (setN_lt (l.take k) (fun x hx => HR.out x (List.mem_of_mem_take hx)))
      go_wp2
      go_round
      case rel => exact ⟨k + 1, by omega, by go_num, by rw [bit_or _ _ (by have := HS.out; omega) (by omega), take_snoc HX.out, setN_snoc]; rfl⟩
      case measure => simp [intOf]; omega
    · obtain rfl : k = l.length := by omega
      go_wp2
      go_ret
      exact ⟨ret_int (by simp), rfl⟩

set_option maxHeartbeats 1000000 in
set_option maxRecDepth 100000 in
theorem k_cost (s : Nat) (m : Mk) (mv : Value) (w : World) (hm : MkRd w m mv) (hok : m.ok = true) (hs : s < 2 ^ m.os.length) :
    Calls Try.prog 74 #[.int .i64 s, mv] w fun e w' => e = .returned (.int .i64 (costL m.os (bits 12 s))) ∧ Below w.heap.size w w' := by
  obtain ⟨ka, kc, oa, oc, rfl, hk, ho, hkl, hol⟩ := hm
  have OK := Lib.hid (okM hok)
  clear hok
  have hs12 : s < 4096 := Nat.lt_of_lt_of_le hs (Nat.pow_le_pow_right (n := 2) (by decide) OK.out.o12)
  have HSB := Lib.hid (bits_mem (k := 12) hs)
  have hbl := bits_len 12 s
  go_enter Try.func74, Try.ntmps74
  go_wp2_with fail
  refine (k_list s hs12 _).mono ?_
  rintro e w1 ⟨v, rfl, hown, hb⟩
  obtain ⟨la, lc, rfl, hrd⟩ := own_rdI hown
  have hm0 : w1.cell? ⟨w.heap.size, 2, none⟩ = some (.slice oa m.os.length oc) := below_cell hb (by simp)
  have hB : Below w.heap.size w w1 := below_then ((Below.refl _ _).alloc (Nat.le_refl _) _) (by simp) hb
  obtain ⟨L, hL⟩ : ∃ L, L = bits 12 s := ⟨_, rfl⟩
  rw [← hL] at hrd HSB hbl ⊢
  have HL := Lib.hid hL
  clear hL hown hb
  go_wp2_with fail
  go_loop [4, 10] (fun v i => ∃ k : Nat, k ≤ L.length ∧ i = .int .i64 k ∧ v = .int .i64 (costL m.os (L.take k))) (fun _ i => L.length - (intOf i).toNat)
  case atStart => exact ⟨0, Nat.zero_le _, rfl, rfl⟩
  case round =>
    obtain ⟨k, hk1, rfl, rfl⟩ := hrel
    by_cases hlt : k < L.length
    · obtain ⟨b, off, x, rfl, hx, hc⟩ := hrd.ati hlt
      obtain ⟨h0, h12⟩ := HSB.out x (List.mem_of_getElem? hx)
      obtain ⟨y, rfl⟩ := Int.eq_ofNat_of_zero_le h0
      obtain ⟨b2, off2, o, rfl, hox, q0, q1, q2, q3⟩ := (ho.below hB).ato (i := y) (by omega)
      have hcb := costL_bd m.os (L.take k) (fun o h => (isOff_iff (OK.out.os o h)).c0) (fun o h => (isOff_iff (OK.out.os o h)).c1) 
      have hob := isOff_iff (OK.out.os o (List.mem_of_getElem? hox))
      have p0 := hob.c0
      have p1 := hob.c1
      have hlk : (L.take k).length ≤ 12 := by rw [List.length_take]; omega
      have HX := Lib.hid hx
      have HO := Lib.hid hox
      clear hx hox hob
      go_wp2
      go_round
      case rel => exact ⟨k + 1, by omega, by go_num, by rw [take_snoc HX.out, costL_snoc, getD_of HO.out]⟩
      case measure => simp [intOf]; omega
    · obtain rfl : k = L.length := by omega
      go_wp2
      go_ret
      exact ⟨ret_int (by simp [HL.out]), hB⟩

set_option maxHeartbeats 2000000 in
set_option maxRecDepth 100000 in
theorem k_asked (m : Mk) (mv : Value) (l cl sz : List Int) (la ca sa : Option Addr) (lc cc sc : Nat) (w : World) (hm : MkRd w m mv) (hl : RdI w la l) (hc : RdI w ca cl) (hs : RdI w sa sz)
    (nl : l.length ≤ 140737488355328) (ncl : cl.length ≤ 140737488355328) (nsz : sz.length ≤ 140737488355328) :
    Calls Try.prog 68 #[mv, .slice la l.length lc, .agg #[.slice ca cl.length cc, .slice sa sz.length sc]] w fun e w' => e = .returned (.int .i64 (askE m l cl sz)) ∧ Below w.heap.size w w' := by
  have HM := Lib.hid hm
  obtain ⟨ka, kc, oa, oc, rfl, hk, ho, hkl, hol⟩ := hm
  have hB0 : Below w.heap.size w ((w.alloc (.cells #[.int .i64 m.n, .slice ka m.ks.length kc, .slice oa m.os.length oc] 24)).alloc (.cells #[.slice ca cl.length cc, .slice sa sz.length sc] 99)) := bal (bal (Below.refl _ _) _) _
  cases hok : m.ok with
  | false =>
    have HC := Lib.hid (chkE_no hok)
    have HA := Lib.hid (ask_m (l := l) (cl := cl) (sz := sz) hok)
    clear hok
    go_enter Try.func68, Try.ntmps68
    go_wp2_with fail
    refine (k_Check m _ _ (HM.out.below hB0)).mono ?_
    rintro e w1 ⟨rfl, hb⟩
    rw [HC.out]
    go_wp2
    go_ret
    exact ⟨ret_int HA.out.symm, bthen hB0 hb⟩
  | true =>
    have HC : Hid (chkE m = 0) := Lib.hid (by simp [chkE, hok])
    have HOK := Lib.hid hok
    clear hok
    go_enter Try.func68, Try.ntmps68
    go_wp2_with fail
    refine (k_Check m _ _ (HM.out.below hB0)).mono ?_
    rintro e w1 ⟨rfl, hb⟩
    rw [HC.out]
    have hm0 : w1.cell? ⟨w.heap.size, 0, none⟩ = some (.int .i64 m.n) := below_cell hb (cal (by simp) _)
    have hm2 : w1.cell? ⟨w.heap.size, 2, none⟩ = some (.slice oa m.os.length oc) := below_cell hb (cal (by simp) _)
    have hn0 : w1.cell? ⟨w.heap.size + 1, 0, none⟩ = some (.slice ca cl.length cc) := below_cell hb (by simp)
    have hn1 : w1.cell? ⟨w.heap.size + 1, 1, none⟩ = some (.slice sa sz.length sc) := below_cell hb (by simp)
    have hB := bthen hB0 hb
    replace hl := hl.below hB
    replace hc := hc.below hB
    replace hs := hs.below hB
    clear hb hB0 hk ho HM
    go_wp2_with fail
    go_loop [21] (fun i => ∃ k : Nat, k ≤ l.length ∧ i = .int .i64 k ∧ Hid (∀ j, j < k → rightAt m.os.length l j)) (fun i => l.length - (intOf i).toNat)
    case atStart => exact ⟨0, Nat.zero_le _, rfl, Lib.hid (fun j h => absurd h (Nat.not_lt_zero _))⟩
    case round =>
      obtain ⟨k, hk1, rfl, hall⟩ := hrel
      by_cases hlt : k < l.length
      · obtain ⟨b, off, x, rfl, hx, q0⟩ := hl.ati hlt
        rcases k with _ | k
        · simp only [Nat.add_zero] at q0
          by_cases hgood : 0 ≤ x ∧ x < m.os.length
          · obtain ⟨hg0, hg1⟩ := hgood
            have HX := Lib.hid hx
            clear hx
            go_wp2
            go_round
            case rel =>
              refine ⟨1, by omega, by go_num, Lib.hid (fun j hj => ?_)⟩
              obtain rfl : j = 0 := by omega
              refine ⟨?_, ?_, .inl rfl⟩
              · rw [List.getD_eq_getElem?_getD, HX.out]; exact hg0
              · rw [List.getD_eq_getElem?_getD, HX.out]; exact hg1
            case measure => simp [intOf]; omega
          · have HX := Lib.hid hx
            have HG := Lib.hid hgood
            clear hx hgood
            go_wp2
            all_goals first
              | (exfalso; exact HG.out ⟨by omega, by omega⟩)
              | (go_ret
                 refine ⟨ret_int (ask_r HOK.out (right_no (i := 0) (by omega) (fun h => HG.out ?_))).symm, hB⟩
                 have h' := h.1; have h2 := h.2.1
                 rw [List.getD_eq_getElem?_getD, HX.out] at h' h2
                 exact ⟨h', h2⟩)
        · obtain ⟨b', off', y, e', hy, q1⟩ := hl.ati (i := k) (by omega)
          injection e' with e'; injection e' with e1 e2; subst e1; subst e2
          have HX := Lib.hid hx
          have HY := Lib.hid hy
          clear hx hy
          by_cases hgood : 0 ≤ x ∧ x < m.os.length ∧ y < x
          · obtain ⟨hg0, hg1, hg2⟩ := hgood
            go_wp2
            go_round
            case rel =>
              refine ⟨k + 1 + 1, by omega, by go_num, Lib.hid (fun j hj => ?_)⟩
              rcases Nat.lt_or_ge j (k + 1) with h' | h'
              · exact hall.out j h'
              · obtain rfl : j = k + 1 := by omega
                refine ⟨?_, ?_, .inr ?_⟩
                · rw [List.getD_eq_getElem?_getD, HX.out]; exact hg0
                · rw [List.getD_eq_getElem?_getD, HX.out]; exact hg1
                · rw [List.getD_eq_getElem?_getD, List.getD_eq_getElem?_getD, HX.out, Nat.add_sub_cancel, HY.out]; exact hg2
            case measure => simp [intOf]; omega
          · have HG := Lib.hid hgood
            clear hgood
            go_wp2
            all_goals first
              | (exfalso; exact HG.out ⟨by omega, by omega, by omega⟩)
              | (go_ret
                 refine ⟨ret_int (ask_r HOK.out (right_no (i := k + 1) (by omega) (fun h => HG.out ?_))).symm, hB⟩
                 have h1 := h.1; have h2 := h.2.1; have h3 := h.2.2
                 rw [List.getD_eq_getElem?_getD, HX.out] at h1 h2
                 rw [List.getD_eq_getElem?_getD, List.getD_eq_getElem?_getD, HX.out, Nat.add_sub_cancel, HY.out] at h3
                 exact ⟨h1, h2, h3.resolve_left (by omega)⟩)
      · have hallr : Hid (right m.os.length l = true) := Lib.hid (right_iff.2 (fun i hi => hall.out i (by omega)))
        clear hall
        go_wp2_with fail
        go_loop [52] (fun i => ∃ k : Nat, k ≤ cl.length ∧ i = .int .i64 k ∧ Hid (∀ j y, cl[j]? = some y → j < k → okC m.n y = true)) (fun i => cl.length - (intOf i).toNat)
        case atStart => exact ⟨0, Nat.zero_le _, rfl, Lib.hid (fun j y _ h => absurd h (Nat.not_lt_zero _))⟩
        case round =>
          clear hk1 hlt
          obtain ⟨k, hk1, rfl, hall⟩ := hrel
          by_cases hlt : k < cl.length
          · obtain ⟨b, off, x, rfl, hx, q0⟩ := hc.ati hlt
            have HX := Lib.hid hx
            clear hx
            by_cases hgood : 0 ≤ x ∧ x < m.n
            · obtain ⟨hg0, hg1⟩ := hgood
              go_wp2
              go_round
              case rel =>
                refine ⟨k + 1, by omega, by go_num, Lib.hid (fun j y hy hj => ?_)⟩
                rcases Nat.lt_or_ge j k with h' | h'
                · exact hall.out j y hy h'
                · obtain rfl : j = k := by omega
                  rw [HX.out] at hy; cases hy; exact okC_mk hg0 hg1
              case measure => simp [intOf]; omega
            · have HG := Lib.hid hgood
              clear hgood
              go_wp2
              all_goals first
                | (exfalso; exact HG.out ⟨by omega, by omega⟩)
                | (go_ret; exact ⟨ret_int (ask_c HOK.out (all_no HX.out (okC_no HG.out))).symm, hB⟩)
          · have hallc := Lib.hid (all_yes (fun j y hy hj => hall.out j y hy (by omega)))
            clear hall
            go_wp2_with fail
            go_loop [68] (fun i => ∃ k : Nat, k ≤ sz.length ∧ i = .int .i64 k ∧ Hid (∀ j y, sz[j]? = some y → j < k → okS y = true)) (fun i => sz.length - (intOf i).toNat)
            case atStart => exact ⟨0, Nat.zero_le _, rfl, Lib.hid (fun j y _ h => absurd h (Nat.not_lt_zero _))⟩
            case round =>
              clear hk1 hlt
              obtain ⟨k, hk1, rfl, hall⟩ := hrel
              by_cases hlt : k < sz.length
              · obtain ⟨b, off, x, rfl, hx, q0⟩ := hs.ati hlt
                have HX := Lib.hid hx
                clear hx
                by_cases hgood : 0 ≤ x ∧ x ≤ 16777216
                · obtain ⟨hg0, hg1⟩ := hgood
                  go_wp2
                  go_round
                  case rel =>
                    refine ⟨k + 1, by omega, by go_num, Lib.hid (fun j y hy hj => ?_)⟩
                    rcases Nat.lt_or_ge j k with h' | h'
                    · exact hall.out j y hy h'
                    · obtain rfl : j = k := by omega
                      rw [HX.out] at hy; cases hy; exact okS_mk hg0 hg1
                  case measure => simp [intOf]; omega
                · have HG := Lib.hid hgood
                  clear hgood
                  go_wp2
                  all_goals first
                    | (exfalso; exact HG.out ⟨by omega, by omega⟩)
                    | (go_ret; exact ⟨ret_int (ask_s HOK.out (all_no HX.out (okS_no HG.out))).symm, hB⟩)
              · have halls := Lib.hid (all_yes (fun j y hy hj => hall.out j y hy (by omega)))
                clear hall
                go_wp2
                go_ret
                exact ⟨ret_int (ask_ok HOK.out hallr.out hallc.out halls.out).symm, hB⟩
end Go.Proofs.Ytjdldmecjhddnaa
