/- The contracts of the reference's Before, least. -/
import Derived.Test.YtjdldmecjhddnaaKR5
namespace Go.Proofs.Ytjdldmecjhddnaa
open Go.RowKit
set_option linter.unusedVariables false
set_option linter.unusedSimpArgs false

def befL (c : Int) (xs : List Int) (d : Int) (ys : List Int) : Bool := decide (orL [cmpI c d, cmpI xs.length ys.length, cmpL xs ys] < 0)
theorem befL_cost {c d : Int} {xs ys : List Int} (h : c ≠ d) : befL c xs d ys = decide (c < d) := by
  unfold befL
  have h1 := @cmpI_zero c d; have h2 := @cmpI_lt_iff c d
  have e : orL [cmpI c d, cmpI xs.length ys.length, cmpL xs ys] = cmpI c d := by rw [orL, if_neg (fun h' => h (h1.1 h'))]
  rw [e]
  by_cases h3 : c < d
  · rw [decide_eq_true h3, decide_eq_true (h2.2 h3)]
  · rw [decide_eq_false h3, decide_eq_false (fun h' => h3 (h2.1 h'))]
theorem befL_len {c : Int} {xs ys : List Int} (h : xs.length ≠ ys.length) : befL c xs c ys = decide ((xs.length : Int) < ys.length) := by
  unfold befL
  have h1 := @cmpI_zero (xs.length : Int) ys.length; have h2 := @cmpI_lt_iff (xs.length : Int) ys.length
  have e : orL [cmpI c c, cmpI xs.length ys.length, cmpL xs ys] = cmpI xs.length ys.length := by rw [orL, if_pos (cmpI_eq c), orL, if_neg (fun h' => h (by have := h1.1 h'; omega))]
  rw [e]
  by_cases h3 : (xs.length : Int) < ys.length
  · rw [decide_eq_true h3, decide_eq_true (h2.2 h3)]
  · rw [decide_eq_false h3, decide_eq_false (fun h' => h3 (h2.1 h'))]
theorem befL_list {c : Int} {xs ys : List Int} (h : xs.length = ys.length) : befL c xs c ys = decide (cmpL xs ys < 0) := by
  unfold befL
  have e : orL [cmpI c c, cmpI xs.length ys.length, cmpL xs ys] = cmpL xs ys := by
    rw [orL, if_pos (cmpI_eq c), orL, h, if_pos (cmpI_eq _), orL]
    split
    · rename_i h'; rw [h']; rfl
    · rfl
  rw [e]

set_option maxHeartbeats 4000000 in
set_option maxRecDepth 100000 in
theorem r_Before (m : Mk) (mv : Value) (xs ys : List Int) (la lb : Option Addr) (xn yn ca cb : Nat) (w : World) (hm : MkRd w m mv) (hxn : xs.length = xn) (hyn : ys.length = yn) (hx : RdI w la xs) (hy : RdI w lb ys) (hok : m.ok = true)
    (hbx : ∀ x ∈ xs, 0 ≤ x ∧ x < m.os.length) (hby : ∀ x ∈ ys, 0 ≤ x ∧ x < m.os.length) (hx12 : xn ≤ 12) (hy12 : yn ≤ 12) :
    Calls Try.prog 107 #[mv, .slice la xn ca, .slice lb yn cb] w fun e w' => e = .returned (.bool (befL (costL m.os xs) xs (costL m.os ys) ys)) ∧ Below w.heap.size w w' := by
  have HXN := Lib.hid hxn
  have HYN := Lib.hid hyn
  have HX := Lib.hid hx
  have HY := Lib.hid hy
  have HOK := Lib.hid hok
  have HBX := Lib.hid hbx
  have HBY := Lib.hid hby
  clear hxn hyn hx hy hok hbx hby
  have HM := Lib.hid hm
  obtain ⟨ka, kc, oa, oc, rfl, _⟩ := hm
  have hB : Below w.heap.size w (w.alloc (.cells #[.int .i64 m.n, .slice ka m.ks.length kc, .slice oa m.os.length oc] 24)) := bal (Below.refl _ _) _
  have m0 : (w.alloc (.cells #[.int .i64 m.n, .slice ka m.ks.length kc, .slice oa m.os.length oc] 24)).cell? ⟨w.heap.size, 0, none⟩ = some (.int .i64 m.n) := by simp
  have m1 : (w.alloc (.cells #[.int .i64 m.n, .slice ka m.ks.length kc, .slice oa m.os.length oc] 24)).cell? ⟨w.heap.size, 1, none⟩ = some (.slice ka m.ks.length kc) := by simp
  have m2 : (w.alloc (.cells #[.int .i64 m.n, .slice ka m.ks.length kc, .slice oa m.os.length oc] 24)).cell? ⟨w.heap.size, 2, none⟩ = some (.slice oa m.os.length oc) := by simp
  obtain ⟨CX, hCX⟩ : ∃ CX, Hid (CX = costL m.os xs) := ⟨_, Lib.hid rfl⟩
  obtain ⟨CY, hCY⟩ : ∃ CY, Hid (CY = costL m.os ys) := ⟨_, Lib.hid rfl⟩
  have hcx : Hid (∀ W, Below w.heap.size w W → Calls Try.prog 73 #[.agg #[.int .i64 m.n, .slice ka m.ks.length kc, .slice oa m.os.length oc], .slice la xn ca] W fun e w' => e = .returned (.int .i64 CX) ∧ Below W.heap.size W w') := Lib.hid (fun W hW => by rw [hCX.out]; exact r_cost m _ xs la xn ca W (HM.out.below hW) HXN.out (HX.out.below hW) HOK.out HBX.out (by rw [HXN.out]; exact hx12))
  have hcy : Hid (∀ W, Below w.heap.size w W → Calls Try.prog 73 #[.agg #[.int .i64 m.n, .slice ka m.ks.length kc, .slice oa m.os.length oc], .slice lb yn cb] W fun e w' => e = .returned (.int .i64 CY) ∧ Below W.heap.size W w') := Lib.hid (fun W hW => by rw [hCY.out]; exact r_cost m _ ys lb yn cb W (HM.out.below hW) HYN.out (HY.out.below hW) HOK.out HBY.out (by rw [HYN.out]; exact hy12))
  rw [← hCX.out, ← hCY.out]
  by_cases hc : CX = CY
  · have HC := Lib.hid hc
    have t0 : (CX != CY) = false := by simp [hc]
    clear hc
    by_cases hl : xn = yn
    · obtain rfl := hl
      have t1 : ((xn : Int) != (xn : Int)) = false := by simp
      have HE := Lib.hid (show befL CX xs CY ys = decide (cmpL xs ys < 0) from by rw [HC.out]; exact befL_list (by rw [HXN.out, HYN.out]))
      go_enter Try.func107, Try.ntmps107
      go_wp2_with fail
      go_region_held3 (fun w' => w'.cell? ⟨w.heap.size, 0, none⟩ = some (.int .i64 m.n) ∧ w'.cell? ⟨w.heap.size, 1, none⟩ = some (.slice ka m.ks.length kc) ∧ w'.cell? ⟨w.heap.size, 2, none⟩ = some (.slice oa m.os.length oc)) (first | go_keep | (go_split_ands; exact ⟨below_cell hb2 ‹_›, below_cell hb2 ‹_›, below_cell hb2 ‹_›⟩) | (go_split_ands; exact ⟨below_cell hb1 ‹_›, below_cell hb1 ‹_›, below_cell hb1 ‹_›⟩) | fail)
        (first
          | (go_at_call 73; ((with_reducible refine (hcx.out _ (by exact hB.drew)).mono ?_); rintro e w2 ⟨rfl, hb1⟩))
          | (go_at_call 73; ((with_reducible refine (hcy.out _ (by exact hB.drew.trans (hb1.mono hB.drew.size))).mono ?_); rintro e w3 ⟨rfl, hb2⟩)))
      have hBz := hB.drew.trans ((bthen hb1 hb2).mono hB.drew.size)
      clear hb1 hb2 hB m0 m1 m2 hcx hcy
      go_wp2_with fail
      go_loopw [9] (fun i wr => ∃ k : Nat, k ≤ xn ∧ i = .int .i64 k ∧ Hid (cmpL xs ys = cmpL (xs.drop k) (ys.drop k)) ∧ Below w.heap.size w wr) (fun i _ => xn - (intOf i).toNat)
      case atStart => exact ⟨0, Nat.zero_le _, rfl, Lib.hid rfl, hBz⟩
      case round =>
        clear hBz
        obtain ⟨k, hk, rfl, hall, hB⟩ := hrel
        by_cases hlt : k < xn
        · obtain ⟨b1, off1, x, e1, h1, c1⟩ := (HX.out.below hB).ati (i := k) (by rw [HXN.out]; exact hlt)
          obtain ⟨b2, off2, y, e2, h2, c2⟩ := (HY.out.below hB).ati (i := k) (by rw [HYN.out]; exact hlt)
          subst e1 e2
          have H1 := Lib.hid h1
          have H2 := Lib.hid h2
          clear h1 h2
          by_cases he : x = y
          · subst he
            have t2 : (x != x) = false := by simp
            go_wp2
            go_quiet (fail)
            go_wp2
            go_roundw
            case rel => exact ⟨k + 1, by omega, by go_num, Lib.hid (by rw [hall.out]; exact cmpL_drop H1.out H2.out (cmpI_eq _)), bdrN hB _⟩
            case measure => simp [intOf]; omega
          · have t2 : (x != y) = true := by simp [he]
            have HNE := Lib.hid he
            clear he
            go_wp2
            go_quiet (fail)
            go_wp2
            go_quiet (fail)
            go_wp2
            go_ret
            refine ⟨ret_bool ?_, bdrN (bdrN hB _) _⟩
            rw [HE.out, hall.out, cmpL_stop H1.out H2.out (fun h => HNE.out (cmpI_zero.1 h))]
            simp only [cmpI_lt_iff]
        · obtain rfl : k = xn := by omega
          go_wp2
          go_ret
          refine ⟨ret_bool ?_, hB⟩
          rw [HE.out, hall.out, cmpL_end (by rw [HXN.out]; exact Nat.le_refl _), if_neg (by rw [HYN.out]; omega)]
          rfl
    · have t1 : ((xn : Int) != (yn : Int)) = true := by simp <;> omega
      have HE := Lib.hid (show befL CX xs CY ys = decide ((xn : Int) < yn) from by rw [HC.out, befL_len (by rw [HXN.out, HYN.out]; exact hl), HXN.out, HYN.out])
      go_enter Try.func107, Try.ntmps107
      go_wp2_with fail
      go_region_held3 (fun w' => w'.cell? ⟨w.heap.size, 0, none⟩ = some (.int .i64 m.n) ∧ w'.cell? ⟨w.heap.size, 1, none⟩ = some (.slice ka m.ks.length kc) ∧ w'.cell? ⟨w.heap.size, 2, none⟩ = some (.slice oa m.os.length oc)) (first | go_keep | (go_split_ands; exact ⟨below_cell hb2 ‹_›, below_cell hb2 ‹_›, below_cell hb2 ‹_›⟩) | (go_split_ands; exact ⟨below_cell hb1 ‹_›, below_cell hb1 ‹_›, below_cell hb1 ‹_›⟩) | fail)
        (first
          | (go_at_call 73; ((with_reducible refine (hcx.out _ (by exact hB.drew)).mono ?_); rintro e w2 ⟨rfl, hb1⟩))
          | (go_at_call 73; ((with_reducible refine (hcy.out _ (by exact hB.drew.trans (hb1.mono hB.drew.size))).mono ?_); rintro e w3 ⟨rfl, hb2⟩)))
      have hBz := hB.drew.trans ((bthen hb1 hb2).mono hB.drew.size)
      clear hb1 hb2 hB m0 m1 m2 hcx hcy
      go_wp2
      go_ret
      refine ⟨ret_bool ?_, hBz⟩
      rw [HE.out]
      simp
  · have t0 : (CX != CY) = true := by simp [hc]
    have HE := Lib.hid (show befL CX xs CY ys = decide (CX < CY) from befL_cost hc)
    clear hc
    go_enter Try.func107, Try.ntmps107
    go_wp2_with fail
    go_region_held3 (fun w' => w'.cell? ⟨w.heap.size, 0, none⟩ = some (.int .i64 m.n) ∧ w'.cell? ⟨w.heap.size, 1, none⟩ = some (.slice ka m.ks.length kc) ∧ w'.cell? ⟨w.heap.size, 2, none⟩ = some (.slice oa m.os.length oc)) (first | go_keep | (go_split_ands; exact ⟨below_cell hb2 ‹_›, below_cell hb2 ‹_›, below_cell hb2 ‹_›⟩) | (go_split_ands; exact ⟨below_cell hb1 ‹_›, below_cell hb1 ‹_›, below_cell hb1 ‹_›⟩) | fail)
      (first
        | (go_at_call 73; ((with_reducible refine (hcx.out _ (by exact hB.drew)).mono ?_); rintro e w2 ⟨rfl, hb1⟩))
        | (go_at_call 73; ((with_reducible refine (hcy.out _ (by exact hB.drew.trans (hb1.mono hB.drew.size))).mono ?_); rintro e w3 ⟨rfl, hb2⟩)))
    have hBz := hB.drew.trans ((bthen hb1 hb2).mono hB.drew.size)
    clear hb1 hb2 hB m0 m1 m2 hcx hcy
    go_wp2
    go_ret
    exact ⟨ret_bool HE.out.symm, hBz⟩

def chL : Option Nat → List Int | none => [] | some s => bits 12 s
set_option maxHeartbeats 8000000 in
set_option maxRecDepth 100000 in
theorem r_least (m : Mk) (mv : Value) (a b most : Int) (p : Nat → Bool) (w : World) (hm : MkRd w m mv) (hok : m.ok = true)
    (hp : ∀ (W : World) (k : Nat) (la : Option Addr) (lc : Nat), Below w.heap.size w W → k < 2 ^ m.os.length → RdI W la (bits 12 k) → Calls Try.prog 65 #[mv, .slice la (bits 12 k).length lc, .int .i64 a, .int .i64 b, .int .i64 most] W fun e w' => e = .returned (.bool (p k)) ∧ Below W.heap.size W w') :
    Calls Try.prog 78 #[mv, .int .i64 a, .int .i64 b, .int .i64 most] w fun e w' => ∃ v, e = .returned (.tuple #[v, .bool (chB (leastS m.os p))]) ∧ OwnI w' w.heap.size v (chL (leastS m.os p)) ∧ Below w.heap.size w w' := by
  have HP := Lib.hid hp
  have HOK := Lib.hid hok
  have ho12 := (okM hok).o12
  have hsh := shl_len m.os.length ho12
  rw [Nat.min_eq_left (show m.os.length ≤ 64 by omega)] at hsh
  have hpl := pow_len hok
  clear hp hok
  have HM := Lib.hid hm
  obtain ⟨ka, kc, oa, oc, rfl, _⟩ := hm
  have hB : Below w.heap.size w (w.alloc (.cells #[.int .i64 m.n, .slice ka m.ks.length kc, .slice oa m.os.length oc] 24)) := bal (Below.refl _ _) _
  have m0 : (w.alloc (.cells #[.int .i64 m.n, .slice ka m.ks.length kc, .slice oa m.os.length oc] 24)).cell? ⟨w.heap.size, 0, none⟩ = some (.int .i64 m.n) := by simp
  have m1 : (w.alloc (.cells #[.int .i64 m.n, .slice ka m.ks.length kc, .slice oa m.os.length oc] 24)).cell? ⟨w.heap.size, 1, none⟩ = some (.slice ka m.ks.length kc) := by simp
  have m2 : (w.alloc (.cells #[.int .i64 m.n, .slice ka m.ks.length kc, .slice oa m.os.length oc] 24)).cell? ⟨w.heap.size, 2, none⟩ = some (.slice oa m.os.length oc) := by simp
  obtain ⟨N, hN⟩ : ∃ N, N = 2 ^ m.os.length := ⟨_, rfl⟩
  rw [← hN] at hsh hpl HP
  have HN := Lib.hid hN
  have hB0 := Lib.hid hB
  have M0 := Lib.hid m0
  have M1 := Lib.hid m1
  have M2 := Lib.hid m2
  have HLT : Hid (∀ s, leastN m.os p N = s → leastS m.os p = s) := Lib.hid (fun s h => by unfold leastS; rw [← HN.out]; exact h)
  clear hN hB m0 m1
  go_enter Try.func78, Try.ntmps78
  go_wp2_with fail
  clear m2
  go_loopw [10, 11, 12] (fun v f i wr => ∃ k : Nat, k ≤ N ∧ i = .int .i64 k ∧ f = .bool (chB (leastN m.os p k)) ∧ wr.ownsRow (w.heap.size + 1) 3 1 v (chL (leastN m.os p k)).length ((chL (leastN m.os p k)).map (Value.int .i64)) ∧ wr.cell? ⟨w.heap.size, 0, none⟩ = some (.int .i64 m.n) ∧ wr.cell? ⟨w.heap.size, 1, none⟩ = some (.slice ka m.ks.length kc) ∧ wr.cell? ⟨w.heap.size, 2, none⟩ = some (.slice oa m.os.length oc) ∧ Below w.heap.size w wr) (fun _ _ i _ => N - (intOf i).toNat)
  case atStart => exact ⟨0, Nat.zero_le _, rfl, rfl, World.ownsRow_nil _ _ _ _, M0.out, M1.out, M2.out, hB0.out⟩
  case round =>
    clear M0 M1 M2 hB0
    obtain ⟨k, hk, rfl, rfl, hown, m0, m1, m2, hB⟩ := hrel
    have hsz : w.heap.size < wr.heap.size := World.block_lt_of_cell? wr _ m0
    by_cases hlt : k < N
    · have hkN : Hid (k < 2 ^ m.os.length) := Lib.hid (by rw [← HN.out]; exact hlt)
      obtain ⟨lo, hlo⟩ : ∃ lo, Hid (lo = leastN m.os p k) := ⟨_, Lib.hid rfl⟩
      rw [← hlo.out] at hown ⊢
      go_wp2_with fail
      refine (r_List k m _ _ (by exact HM.out.below hB) ho12 hkN.out).mono ?_
      rintro e w1 ⟨v1, rfl, hown1, hb1⟩
      have hB1 := bthen hB hb1
      replace m0 := below_cell hb1 m0
      replace m1 := below_cell hb1 m1
      replace m2 := below_cell hb1 m2
      have hsz1 : w.heap.size < w1.heap.size := World.block_lt_of_cell? w1 _ m0
      have hown0 := Lib.hid (own_below hown hb1)
      have hownN := Lib.hid (hown1.mono_base (b' := w.heap.size + 1) (by omega))
      have hrdN := own_rdI hown1
      obtain ⟨la, lc, rfl, hrd⟩ := hrdN
      have HRD := Lib.hid hrd
      clear hown hown1 hb1 hrd
      cases lo with
      | none =>
        go_wp2_with fail
        cases hpk : p k with
        | false =>
          have HPK := Lib.hid hpk
          refine (HP.out _ k _ _ (by exact hB1) hlt HRD.out).mono ?_
          rintro e w2 ⟨rfl, hb2⟩
          rw [HPK.out]
          replace m0 := below_cell hb2 m0
          replace m1 := below_cell hb2 m1
          replace m2 := below_cell hb2 m2
          go_wp2
          go_roundw
          case rel => exact ⟨k + 1, by omega, by go_num, by rw [leastN_none_no hlo.out HPK.out]; rfl, by rw [leastN_none_no hlo.out HPK.out]; exact own_below hown0.out hb2, m0, m1, m2, bthen hB1 hb2⟩
          case measure => simp [intOf]; omega
        | true =>
          have HPK := Lib.hid hpk
          refine (HP.out _ k _ _ (by exact hB1) hlt HRD.out).mono ?_
          rintro e w2 ⟨rfl, hb2⟩
          rw [HPK.out]
          replace m0 := below_cell hb2 m0
          replace m1 := below_cell hb2 m1
          replace m2 := below_cell hb2 m2
          go_wp2
          go_roundw
          case rel => exact ⟨k + 1, by omega, by go_num, by rw [leastN_none_yes hlo.out HPK.out]; rfl, by rw [leastN_none_yes hlo.out HPK.out]; exact own_below hownN.out hb2, m0, m1, m2, bthen hB1 hb2⟩
          case measure => simp [intOf]; omega
      | some s =>
        have hs4 : Hid (s < 2 ^ m.os.length) := Lib.hid (by have := (leastN_lt m.os p k s hlo.out.symm).1; have := hkN.out; omega)
        obtain ⟨ba, bc, e10, hrs⟩ := own_rdI hown0.out
        have HRS := Lib.hid hrs
        subst e10
        clear hrs
        have hbk : Hid (∀ x ∈ bits 12 k, 0 ≤ x ∧ x < m.os.length) := Lib.hid (bits_mem hkN.out)
        have hbs : Hid (∀ x ∈ bits 12 s, 0 ≤ x ∧ x < m.os.length) := Lib.hid (bits_mem hs4.out)
        go_wp2_with fail
        refine (r_Before m _ (bits 12 k) (bits 12 s) _ _ _ _ _ _ _ (by exact HM.out.below hB1) rfl rfl HRD.out HRS.out HOK.out hbk.out hbs.out (bits_len 12 k) (bits_len 12 s)).mono ?_
        rintro e w3 ⟨rfl, hb3⟩
        have hB2 := bthen hB1 hb3
        replace m0 := below_cell hb3 m0
        replace m1 := below_cell hb3 m1
        replace m2 := below_cell hb3 m2
        have hsz2 : w.heap.size < w3.heap.size := World.block_lt_of_cell? w3 _ m0
        replace hown0 := Lib.hid (own_below hown0.out hb3)
        replace hownN := Lib.hid (own_below hownN.out hb3)
        replace HRD := Lib.hid (HRD.out.below hb3)
        clear hb3 hB1 HRS
        cases hbf : bef (costL m.os (bits 12 k)) k (costL m.os (bits 12 s)) s with
        | false =>
          have HBF := Lib.hid hbf
          have hbf' : befL (costL m.os (bits 12 k)) (bits 12 k) (costL m.os (bits 12 s)) (bits 12 s) = false := hbf
          rw [hbf']
          clear hbf hbf'
          go_wp2
          go_roundw
          case rel => exact ⟨k + 1, by omega, by go_num, by rw [leastN_some_no hlo.out (by rw [HBF.out, Bool.false_and])]; rfl, by rw [leastN_some_no hlo.out (by rw [HBF.out, Bool.false_and])]; exact hown0.out, m0, m1, m2, hB2⟩
          case measure => simp [intOf]; omega
        | true =>
          have HBF := Lib.hid hbf
          have hbf' : befL (costL m.os (bits 12 k)) (bits 12 k) (costL m.os (bits 12 s)) (bits 12 s) = true := hbf
          rw [hbf']
          clear hbf hbf'
          go_wp2_with fail
          cases hpk : p k with
          | false =>
            have HPK := Lib.hid hpk
            refine (HP.out _ k _ _ (by exact hB2) hlt HRD.out).mono ?_
            rintro e w2 ⟨rfl, hb2⟩
            rw [HPK.out]
            replace m0 := below_cell hb2 m0
            replace m1 := below_cell hb2 m1
            replace m2 := below_cell hb2 m2
            go_wp2
            go_roundw
            case rel => exact ⟨k + 1, by omega, by go_num, by rw [leastN_some_no hlo.out (by rw [HPK.out, Bool.and_false])]; rfl, by rw [leastN_some_no hlo.out (by rw [HPK.out, Bool.and_false])]; exact own_below hown0.out hb2, m0, m1, m2, bthen hB2 hb2⟩
            case measure => simp [intOf]; omega
          | true =>
            have HPK := Lib.hid hpk
            refine (HP.out _ k _ _ (by exact hB2) hlt HRD.out).mono ?_
            rintro e w2 ⟨rfl, hb2⟩
            rw [HPK.out]
            replace m0 := below_cell hb2 m0
            replace m1 := below_cell hb2 m1
            replace m2 := below_cell hb2 m2
            go_wp2
            go_roundw
            case rel => exact ⟨k + 1, by omega, by go_num, by rw [leastN_some_yes hlo.out HBF.out HPK.out]; rfl, by rw [leastN_some_yes hlo.out HBF.out HPK.out]; exact own_below hownN.out hb2, m0, m1, m2, bthen hB2 hb2⟩
            case measure => simp [intOf]; omega
    · obtain rfl : k = N := by omega
      go_wp2
      go_ret2
      rw [HLT.out _ rfl]
      exact ⟨_, rfl, hown.mono_base (by omega), hB⟩
end Go.Proofs.Ytjdldmecjhddnaa
