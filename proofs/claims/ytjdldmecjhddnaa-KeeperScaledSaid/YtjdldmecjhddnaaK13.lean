/- The contracts of keeper.CheckPath. -/
import Derived.Test.YtjdldmecjhddnaaK10
namespace Go.Proofs.Ytjdldmecjhddnaa
open Go.RowKit
set_option linter.unusedVariables false
set_option linter.unusedSimpArgs false

theorem k_stepsM (s : Nat) (m : Mk) (mv : Value) (w : World) (hm : MkRd w m mv) (hok : m.ok = true) (hs : s < 2 ^ m.os.length) :
    Calls Try.prog 103 #[mv, .int .i64 s] w fun e w' => ∃ v, e = .returned v ∧ Tab w' w.heap.size v m.n.toNat (stp (comps m (bits 12 s))) ∧ Below w.heap.size w w' := by
  obtain ⟨n, ks, os⟩ := m
  have h2 := (okM hok).n2
  simp only at h2
  obtain ⟨y, rfl⟩ := Int.eq_ofNat_of_zero_le (show 0 ≤ n by omega)
  exact k_steps s y ks os mv w hm hok hs
/-- The sum of the steps of the first k clocks of a way. -/
def sumP (d : Nat → Nat → Int) (p : List Int) : Nat → Int
  | 0 => 0
  | k + 1 => sumP d p k + (if k = 0 then 0 else d (p.getD (k - 1) 0).toNat (p.getD k 0).toNat)
def endsP (a b : Int) (p : List Int) : Bool := decide (1 ≤ p.length) && decide (p.length ≤ 64) && decide (p.getD 0 0 = a) && decide (p.getD (p.length - 1) 0 = b)
def pathE (m : Mk) (l : List Int) (a b width : Int) (p : List Int) : Int :=
  if askE m l [a, b] [width] ≠ 0 then askE m l [a, b] [width] else
  if endsP a b p = false then 32 else if p.all (okC m.n) = false then 32 else if width < sumP (stp (comps m l)) p p.length then 32 else 0
theorem sumP_bd {d : Nat → Nat → Int} {n : Nat} (hd : ∀ x y, 0 ≤ d x y ∧ d x y ≤ 1099511627776) (p : List Int) : ∀ k, 0 ≤ sumP d p k ∧ sumP d p k ≤ 1099511627776 * k
  | 0 => by simp [sumP]
  | k + 1 => by
    have h1 := sumP_bd (n := n) hd p k
    have h2 := hd (p.getD (k - 1) 0).toNat (p.getD k 0).toNat
    unfold sumP
    split <;> push_cast <;> omega
theorem getD_at {l : List Int} {i : Nat} {x : Int} (h : l[i]? = some x) : l.getD i 0 = x := by rw [List.getD_eq_getElem?_getD, h]; rfl

set_option maxHeartbeats 4000000 in
set_option maxRecDepth 100000 in
theorem k_CheckPath (m : Mk) (mv : Value) (l : List Int) (la : Option Addr) (lc : Nat) (a b width : Int) (p : List Int) (pa : Option Addr) (pn pc : Nat) (w : World) (hm : MkRd w m mv) (hl : RdI w la l) (hll : l.length ≤ 140737488355328) (hp : RdI w pa p) (hpn : p.length = pn) (hpll : pn ≤ 140737488355328) :
    Calls Try.prog 60 #[mv, .slice la l.length lc, .int .i64 a, .int .i64 b, .int .i64 width, .slice pa pn pc] w fun e w' => e = .returned (.int .i64 (pathE m l a b width p)) ∧ Below w.heap.size w w' := by
  have HM := Lib.hid hm
  obtain ⟨ka, kc, oa, oc, rfl, _⟩ := hm
  have hB0 : Below w.heap.size w (((w.alloc (.cells #[.int .i64 m.n, .slice ka m.ks.length kc, .slice oa m.os.length oc] 24)).alloc (.cells #[.int .i64 a, .int .i64 b] 3)).alloc (.cells #[.int .i64 width] 3)) := bal (bal (bal (Below.refl _ _) _) _) _
  have hcalls := Lib.hid (k_asked m _ l [a, b] [width] la (some ⟨w.heap.size + 1, 0, none⟩) (some ⟨w.heap.size + 1 + 1, 0, none⟩) lc 2 1 _ (HM.out.below hB0) (hl.below hB0) ((by simpa using rdI_new (w.alloc (.cells #[.int .i64 m.n, .slice ka m.ks.length kc, .slice oa m.os.length oc] 24)) [a, b] 3 : RdI _ (some ⟨w.heap.size + 1, 0, none⟩) [a, b]).below (bal (Below.refl _ _) (.cells #[.int .i64 width] 3))) (by simpa using rdI_new ((w.alloc (.cells #[.int .i64 m.n, .slice ka m.ks.length kc, .slice oa m.os.length oc] 24)).alloc (.cells #[.int .i64 a, .int .i64 b] 3)) [width] 3 : RdI _ (some ⟨w.heap.size + 1 + 1, 0, none⟩) [width]) hll (by simp) (by simp))
  have HM0 := Lib.hid (cal (cal (show (w.alloc (.cells #[.int .i64 m.n, .slice ka m.ks.length kc, .slice oa m.os.length oc] 24)).cell? ⟨w.heap.size, 0, none⟩ = some (.int .i64 m.n) from by simp) (.cells #[.int .i64 a, .int .i64 b] 3)) (.cells #[.int .i64 width] 3))
  have HM1 := Lib.hid (cal (cal (show (w.alloc (.cells #[.int .i64 m.n, .slice ka m.ks.length kc, .slice oa m.os.length oc] 24)).cell? ⟨w.heap.size, 1, none⟩ = some (.slice ka m.ks.length kc) from by simp) (.cells #[.int .i64 a, .int .i64 b] 3)) (.cells #[.int .i64 width] 3))
  have HM2 := Lib.hid (cal (cal (show (w.alloc (.cells #[.int .i64 m.n, .slice ka m.ks.length kc, .slice oa m.os.length oc] 24)).cell? ⟨w.heap.size, 2, none⟩ = some (.slice oa m.os.length oc) from by simp) (.cells #[.int .i64 a, .int .i64 b] 3)) (.cells #[.int .i64 width] 3))
  by_cases he : askE m l [a, b] [width] ≠ 0
  · have HF := Lib.hid (show pathE m l a b width p = askE m l [a, b] [width] from if_pos he)
    have HN := Lib.hid (show (askE m l [a, b] [width] != 0) = true from by rw [bne_iff_ne]; exact he)
    have hne := HN.out
    have HE := Lib.hid he
    clear he
    go_enter Try.func60, Try.ntmps60
    go_wp2_with fail
    refine hcalls.out.mono ?_
    rintro e w1 ⟨rfl, hb⟩
    have hB := bthen hB0 hb
    have m0 := below_cell hb HM0.out
    have m1 := below_cell hb HM1.out
    have m2 := below_cell hb HM2.out
    clear hcalls HM0 HM1 HM2 hB0 hb
    clear m0 m1 m2
    go_wp2
    go_ret
    exact ⟨ret_int HF.out.symm, hB⟩
  · have he0 : askE m l [a, b] [width] = 0 := Decidable.of_not_not he
    have HE := Lib.hid he0
    clear he
    obtain ⟨hok, hright, hcl, _⟩ := ask_0 he0
    have HOK := Lib.hid hok
    have hpl := pow_len hok
    have hca := List.all_eq_true.1 hcl a (by simp)
    have hcb := List.all_eq_true.1 hcl b (by simp)
    simp only [okC, Bool.and_eq_true, decide_eq_true_eq] at hca hcb
    obtain ⟨a0, a1⟩ := hca
    obtain ⟨b0, b1⟩ := hcb
    clear hcl
    have HPP := Lib.hid hp
    by_cases e1 : pn < 1
    · clear he0
      have HF := Lib.hid (show pathE m l a b width p = 32 from by
        unfold pathE
        rw [if_neg (by rw [HE.out]; simp), if_pos]
        unfold endsP
        rw [hpn]; simp; omega)
      go_enter Try.func60, Try.ntmps60
      go_wp2_with fail
      refine hcalls.out.mono ?_
      rintro e w1 ⟨rfl, hb⟩
      rw [HE.out]
      have hB := bthen hB0 hb
      have m0 := below_cell hb HM0.out
      have m1 := below_cell hb HM1.out
      have m2 := below_cell hb HM2.out
      clear hcalls HM0 HM1 HM2 hB0 hb
      go_wp2
      go_ret
      exact ⟨ret_int HF.out.symm, hB⟩
    · obtain ⟨K, rfl⟩ : ∃ K, pn = K + 1 := ⟨pn - 1, by omega⟩
      by_cases e2 : 64 < K + 1
      · clear he0
        have HF := Lib.hid (show pathE m l a b width p = 32 from by
          unfold pathE
          rw [if_neg (by rw [HE.out]; simp), if_pos]
          unfold endsP
          rw [hpn]; simp; omega)
        go_enter Try.func60, Try.ntmps60
        go_wp2_with fail
        refine hcalls.out.mono ?_
        rintro e w1 ⟨rfl, hb⟩
        rw [HE.out]
        have hB := bthen hB0 hb
        have m0 := below_cell hb HM0.out
        have m1 := below_cell hb HM1.out
        have m2 := below_cell hb HM2.out
        clear hcalls HM0 HM1 HM2 hB0 hb
        go_wp2
        go_ret
        exact ⟨ret_int HF.out.symm, hB⟩
      · obtain ⟨pb, poff, p0, rfl, hp0, hq0⟩ := hp.ati (i := 0) (by omega)
        obtain ⟨pb', poff', pz, hpe, hpz, hqz⟩ := hp.ati (i := K) (by omega)
        injection hpe with hpe
        injection hpe with hpe1 hpe2 hpe3
        subst hpe1 hpe2
        have g0 := getD_at hp0
        have gz := getD_at hpz
        by_cases e3 : p0 = a
        · by_cases e4 : pz = b
          · have hends : endsP a b p = true := by
              unfold endsP
              rw [hpn, show K + 1 - 1 = K from rfl, g0, gz, e3, e4]; simp; omega
            subst e3 e4
            have HG := Lib.hid hpn
            have h12 := (okM hok).o12
            have hln := right_len hright h12
            have hst := setN_two (right_bd hright)
            have hbs := bits_setN hright h12
            have hrb : ∀ x ∈ l, 0 ≤ x ∧ x < 12 := fun x hx => by have := right_bd hright x hx; omega
            have HRB := Lib.hid hrb
            have HRL := Lib.hid hl
            have hW : ∀ o ∈ comps m l, 0 ≤ o.W := by
              intro o ho
              rcases List.mem_append.1 ho with h | h
              · exact (isOff_iff ((okM hok).ks o h)).w0
              · exact (isOff_iff ((okM hok).os o (sel_mem (right_bd hright) o h))).w0
            have hbd : ∀ x y, 0 ≤ stp (comps m l) x y ∧ stp (comps m l) x y ≤ 1099511627776 := fun x y => stp_bd _ hW x y
            have h8 := (okM hok).n8
            have h2 := (okM hok).n2
            obtain ⟨Z, hZ⟩ : ∃ Z, Z = setN l := ⟨_, rfl⟩
            rw [← hZ] at hst hbs
            have HZ := Lib.hid hZ
            clear hZ hrb hright h12 hok hW
            have HK := fun W (h : MkRd W m (.agg #[.int .i64 m.n, .slice ka m.ks.length kc, .slice oa m.os.length oc])) => k_stepsM Z m _ W h HOK.out hst
            rw [hbs] at HK
            have HF := Lib.hid (show pathE m l p0 pz width p = if p.all (okC m.n) = false then 32 else if width < sumP (stp (comps m l)) p (K + 1) then 32 else 0 from by
              unfold pathE
              rw [if_neg (by rw [HE.out]; simp), if_neg (by rw [hends]; simp), HG.out])
            obtain ⟨DD, hDD⟩ : ∃ DD, DD = stp (comps m l) := ⟨_, rfl⟩
            rw [← hDD] at HK hbd HF
            have HKK := Lib.hid HK
            have HBD := Lib.hid hbd
            clear HK hbs hDD hl hbd hends he0 hpn g0 gz hpe3 hpz hp0 hp
            go_enter Try.func60, Try.ntmps60
            go_wp2_with fail
            refine hcalls.out.mono ?_
            rintro e w1 ⟨rfl, hb⟩
            rw [HE.out]
            have hB := bthen hB0 hb
            have m0 := below_cell hb HM0.out
            have m1 := below_cell hb HM1.out
            have m2 := below_cell hb HM2.out
            clear hcalls HM0 HM1 HM2 hB0 hb
            have hq0' := below_cell hB hq0
            have hqz' := below_cell hB hqz
            simp only [Nat.add_zero] at hq0'
            go_wp2_with fail
            go_region_held3 (fun w' => w'.cell? ⟨w.heap.size, 0, none⟩ = some (.int .i64 m.n) ∧ w'.cell? ⟨w.heap.size, 1, none⟩ = some (.slice ka m.ks.length kc) ∧ w'.cell? ⟨w.heap.size, 2, none⟩ = some (.slice oa m.os.length oc)) (first | go_keep | (go_split_ands; exact ⟨below_cell hb1 ‹_›, below_cell hb1 ‹_›, below_cell hb1 ‹_›⟩) | fail)
              (first
                | (go_at_call 84; refine (k_setOf l _ _ _ (by exact HRL.out.below hB.drew) HRB.out hln).mono ?_; rintro e wq ⟨rfl, rfl⟩; rw [← HZ.out])
                | (go_at_call 103; refine (HKK.out _ (by exact HM.out.below hB.drew)).mono ?_; rintro e w2 ⟨v, rfl, ⟨g, cap, f, c, rfl, hT⟩, hb1⟩))
            have hBz := hB.drew.trans (hb1.mono hB.size)
            have hm0 := below_cell hb1 (cdw m0)
            have hP := HPP.out.below hBz
            clear hb1 hB m0 m1 m2 hq0 hqz hq0' hqz'
            go_wp2_with fail
            go_loop [15, 61] (fun v i => ∃ k : Nat, k ≤ K + 1 ∧ i = .int .i64 k ∧ v = .int .i64 (sumP DD p k) ∧ Hid (∀ j x, p[j]? = some x → j < k → okC m.n x = true)) (fun _ i => K + 1 - (intOf i).toNat)
            case atStart => exact ⟨0, Nat.zero_le _, rfl, rfl, Lib.hid (fun j x _ h => absurd h (Nat.not_lt_zero _))⟩
            case round =>
              obtain ⟨k, hk1, rfl, rfl, hall⟩ := hrel
              by_cases hlt : k < K + 1
              · obtain ⟨b', off', x, hpe, hx, hc⟩ := hP.ati (i := k) (by rw [HG.out]; exact hlt)
                injection hpe with hpe
                injection hpe with hpe1 hpe2 hpe3
                subst hpe1 hpe2
                clear hpe3
                have HX := Lib.hid hx
                clear hx
                by_cases hgood : 0 ≤ x ∧ x < m.n
                · obtain ⟨x0, x1⟩ := hgood
                  obtain ⟨y, rfl⟩ := Int.eq_ofNat_of_zero_le x0
                  have hallk := Lib.hid (show ∀ j z, p[j]? = some z → j < k + 1 → okC m.n z = true from by
                    intro j z hj hjk
                    by_cases hjk2 : j < k
                    · exact hall.out j z hj hjk2
                    · obtain rfl : j = k := by omega
                      rw [HX.out] at hj; cases hj
                      exact okC_mk x0 x1)
                  have hsb := sumP_bd (n := 0) HBD.out p k
                  rcases k with _ | k
                  · simp only [Nat.add_zero] at hc
                    go_wp2
                    go_round
                    case rel => exact ⟨1, by omega, by go_num, by simp [sumP], hallk⟩
                    case measure => simp [intOf]
                  · obtain ⟨b', off', x', hpe, hx', hc'⟩ := hP.ati (i := k) (by rw [HG.out]; omega)
                    injection hpe with hpe
                    injection hpe with hpe1 hpe2 hpe3
                    subst hpe1 hpe2
                    clear hpe3
                    have hgx := hall.out k x' hx' (by omega)
                    simp only [okC, Bool.and_eq_true, decide_eq_true_eq] at hgx
                    obtain ⟨x'0, x'1⟩ := hgx
                    obtain ⟨z, rfl⟩ := Int.eq_ofNat_of_zero_le x'0
                    have t1 := hT.row z (by omega)
                    have t2 := hT.cell z y (by omega) (by omega)
                    have hdz := HBD.out z y
                    have hsum := Lib.hid (show sumP DD p (k + 1 + 1) = sumP DD p (k + 1) + DD z y from by
                      rw [sumP, if_neg (by omega), getD_at (show p[k + 1 - 1]? = some _ from hx'), getD_at HX.out]; rfl)
                    clear hx' hall
                    go_wp2
                    go_round
                    case rel => exact ⟨k + 1 + 1, by omega, by go_num, by rw [hsum.out], hallk⟩
                    case measure => simp [intOf]; omega
                · have hno := Lib.hid (show p.all (okC m.n) = false from all_no HX.out (okC_no hgood))
                  by_cases hx0 : x < 0
                  · go_wp2
                    go_ret
                    exact ⟨ret_int (by rw [HF.out, if_pos hno.out]), hBz⟩
                  · have hx1 : m.n ≤ x := by omega
                    have hx2 : 0 ≤ x := by omega
                    go_wp2
                    go_ret
                    exact ⟨ret_int (by rw [HF.out, if_pos hno.out]), hBz⟩
              · obtain rfl : k = K + 1 := by omega
                have hyes := Lib.hid (show p.all (okC m.n) = true from all_yes (fun j x hj hjl => hall.out j x hj (by rw [← HG.out]; exact hjl)))
                by_cases hs : width < sumP DD p (K + 1)
                · go_wp2
                  go_ret
                  exact ⟨ret_int (by rw [HF.out, if_neg (by rw [hyes.out]; simp), if_pos hs]), hBz⟩
                · go_wp2
                  go_ret
                  exact ⟨ret_int (by rw [HF.out, if_neg (by rw [hyes.out]; simp), if_neg (by omega)]), hBz⟩
          · clear he0
            have HF := Lib.hid (show pathE m l a b width p = 32 from by
              unfold pathE
              rw [if_neg (by rw [HE.out]; simp), if_pos]
              unfold endsP
              rw [hpn, show K + 1 - 1 = K from rfl, gz]; simp [e4])
            go_enter Try.func60, Try.ntmps60
            go_wp2_with fail
            refine hcalls.out.mono ?_
            rintro e w1 ⟨rfl, hb⟩
            rw [HE.out]
            have hB := bthen hB0 hb
            have m0 := below_cell hb HM0.out
            have m1 := below_cell hb HM1.out
            have m2 := below_cell hb HM2.out
            clear hcalls HM0 HM1 HM2 hB0 hb
            have hbn : (pz != b) = true := by rw [bne_iff_ne]; exact e4
            have hq0' := below_cell hB hq0
            have hqz' := below_cell hB hqz
            simp only [Nat.add_zero] at hq0'
            go_wp2
            go_ret
            exact ⟨ret_int HF.out.symm, hB⟩
        · clear he0
          have HF := Lib.hid (show pathE m l a b width p = 32 from by
            unfold pathE
            rw [if_neg (by rw [HE.out]; simp), if_pos]
            unfold endsP
            rw [g0]; simp [e3])
          go_enter Try.func60, Try.ntmps60
          go_wp2_with fail
          refine hcalls.out.mono ?_
          rintro e w1 ⟨rfl, hb⟩
          rw [HE.out]
          have hB := bthen hB0 hb
          have m0 := below_cell hb HM0.out
          have m1 := below_cell hb HM1.out
          have m2 := below_cell hb HM2.out
          clear hcalls HM0 HM1 HM2 hB0 hb
          have hq0' := below_cell hB hq0
          simp only [Nat.add_zero] at hq0'
          go_wp2
          go_ret
          exact ⟨ret_int HF.out.symm, hB⟩

end Go.Proofs.Ytjdldmecjhddnaa
