/- The contracts of keeper.Price. -/
import Derived.Test.YtjdldmecjhddnaaK11
namespace Go.Proofs.Ytjdldmecjhddnaa
open Go.RowKit
set_option linter.unusedVariables false
set_option linter.unusedSimpArgs false

theorem bit_test0 (s k : Nat) (hs : s < 4611686018427387904) : (Go.bits .and .i64 ((s : Int) / 2 ^ k) 1 == 0) = !s.testBit k := by
  rw [← bit_test s k hs]
  have e : ((s : Int) / 2 ^ k) = ((s / 2 ^ k : Nat) : Int) := by simp
  have e1 : (1 : Int) = ((1 : Nat) : Int) := rfl
  have hq : s / 2 ^ k < 4611686018427387904 := Nat.lt_of_le_of_lt (Nat.div_le_self _ _) hs
  rw [e, e1, (i64_nat (s / 2 ^ k) 1 hq (by omega)).1, Nat.and_one_is_mod]
  rcases Nat.mod_two_eq_zero_or_one (s / 2 ^ k) with h | h <;> rw [h] <;> rfl

set_option maxHeartbeats 2000000 in
set_option maxRecDepth 100000 in
theorem k_Price1 (p : Nat → Bool) (N : Nat) (fv : Value) (B1 B2 x s : Nat) (w : World) (hw : Want w fv p N) (h1 : w.cell? ⟨B1, 0, none⟩ = some (.int .i64 x)) (h2 : w.cell? ⟨B2, 0, none⟩ = some fv) (hs : s < N) (hN : N ≤ 4096) (hx : x < 12) :
    Calls Try.prog 69 #[.int .i64 s, .pointer (some ⟨B1, 0, none⟩), .pointer (some ⟨B2, 0, none⟩)] w fun e w' => e = .returned (.bool (s.testBit x && p s)) ∧ Below w.heap.size w w' := by
  obtain ⟨g, cb, rfl, eg, hcall⟩ := hw
  unfold Enters at eg
  have hC := Lib.hid hcall
  clear hcall
  go_enter Try.func69, Try.ntmps69
  cases ht : s.testBit x with
  | true =>
    have hT : (Go.bits .and .i64 ((s : Int) / 2 ^ x) 1 == 1) = true := by rw [bit_test s x (by omega), ht]
    have HT := Lib.hid ht
    clear ht
    cases hp : p s with
    | true =>
      have HP := Lib.hid hp
      clear hp
      go_wp2_with fail
      refine (hC.out _ s (Below.refl _ _) hs).mono ?_
      rintro e w1 ⟨rfl, hb⟩
      rw [HP.out]
      go_wp2
      go_ret
      exact ⟨ret_bool rfl, hb⟩
    | false =>
      have HP := Lib.hid hp
      clear hp
      go_wp2_with fail
      refine (hC.out _ s (Below.refl _ _) hs).mono ?_
      rintro e w1 ⟨rfl, hb⟩
      rw [HP.out]
      go_wp2
      go_ret
      exact ⟨ret_bool rfl, hb⟩
  | false =>
    have hT : (Go.bits .and .i64 ((s : Int) / 2 ^ x) 1 == 1) = false := by rw [bit_test s x (by omega), ht]
    have HT := Lib.hid ht
    clear ht
    go_wp2
    go_ret
    exact ⟨ret_bool rfl, Below.refl _ _⟩

set_option maxHeartbeats 2000000 in
set_option maxRecDepth 100000 in
theorem k_Price2 (p : Nat → Bool) (N : Nat) (fv : Value) (B1 B2 x s : Nat) (w : World) (hw : Want w fv p N) (h1 : w.cell? ⟨B1, 0, none⟩ = some (.int .i64 x)) (h2 : w.cell? ⟨B2, 0, none⟩ = some fv) (hs : s < N) (hN : N ≤ 4096) (hx : x < 12) :
    Calls Try.prog 71 #[.int .i64 s, .pointer (some ⟨B1, 0, none⟩), .pointer (some ⟨B2, 0, none⟩)] w fun e w' => e = .returned (.bool (!s.testBit x && p s)) ∧ Below w.heap.size w w' := by
  obtain ⟨g, cb, rfl, eg, hcall⟩ := hw
  unfold Enters at eg
  have hC := Lib.hid hcall
  clear hcall
  go_enter Try.func71, Try.ntmps71
  cases ht : s.testBit x with
  | false =>
    have hT : (Go.bits .and .i64 ((s : Int) / 2 ^ x) 1 == 0) = true := by rw [bit_test0 s x (by omega), ht]; rfl
    have HT := Lib.hid ht
    clear ht
    cases hp : p s with
    | true =>
      have HP := Lib.hid hp
      clear hp
      go_wp2_with fail
      refine (hC.out _ s (Below.refl _ _) hs).mono ?_
      rintro e w1 ⟨rfl, hb⟩
      rw [HP.out]
      go_wp2
      go_ret
      exact ⟨ret_bool rfl, hb⟩
    | false =>
      have HP := Lib.hid hp
      clear hp
      go_wp2_with fail
      refine (hC.out _ s (Below.refl _ _) hs).mono ?_
      rintro e w1 ⟨rfl, hb⟩
      rw [HP.out]
      go_wp2
      go_ret
      exact ⟨ret_bool rfl, hb⟩
  | true =>
    have hT : (Go.bits .and .i64 ((s : Int) / 2 ^ x) 1 == 0) = false := by rw [bit_test0 s x (by omega), ht]; rfl
    have HT := Lib.hid ht
    clear ht
    go_wp2
    go_ret
    exact ⟨ret_bool rfl, Below.refl _ _⟩

def withP (m : Mk) (a b width : Int) (x : Nat) (s : Nat) : Bool := s.testBit x && decide (wdS m s a b ≤ width)
def woP (m : Mk) (a b width : Int) (x : Nat) (s : Nat) : Bool := !s.testBit x && decide (wdS m s a b ≤ width)
def priceF (m : Mk) (a b width o : Int) : Int × Bool × Int :=
  if askE m [] [a, b] [width] ≠ 0 then (0, false, askE m [] [a, b] [width]) else
  if ¬ (0 ≤ o ∧ o < m.os.length) then (0, false, 1) else
  if reachE m a b width ≠ 0 then (0, false, reachE m a b width) else
  match leastS m.os (woP m a b width o.toNat) with
  | none => (0, false, 0)
  | some t => (costL m.os (bits 12 t) - chC m.os (leastS m.os (withP m a b width o.toNat)), true, 0)
theorem chC_bd (m : Mk) (h : m.ok = true) (r : Option Nat) : 0 ≤ chC m.os r ∧ chC m.os r ≤ 120000 := by
  cases r with
  | none => simp [chC]
  | some s =>
    have := costL_bd m.os (bits 12 s) (fun o ho => (isOff_iff ((okM h).os o ho)).c0) (fun o ho => (isOff_iff ((okM h).os o ho)).c1)
    have := bits_len 12 s
    show 0 ≤ costL m.os (bits 12 s) ∧ costL m.os (bits 12 s) ≤ 120000
    omega

set_option maxHeartbeats 4000000 in
set_option maxRecDepth 100000 in
theorem k_Price (m : Mk) (mv : Value) (a b width o : Int) (w : World) (hm : MkRd w m mv) :
    Calls Try.prog 17 #[mv, .int .i64 a, .int .i64 b, .int .i64 width, .int .i64 o] w fun e w' => e = .returned (.tuple #[.int .i64 (priceF m a b width o).1, .bool (priceF m a b width o).2.1, .int .i64 (priceF m a b width o).2.2]) ∧ Below w.heap.size w w' := by
  have HM := Lib.hid hm
  obtain ⟨ka, kc, oa, oc, rfl, _⟩ := hm
  have hB0 : Below w.heap.size w ((((w.alloc (.cells #[.int .i64 m.n, .slice ka m.ks.length kc, .slice oa m.os.length oc] 24)).alloc (.cells #[.int .i64 o] 3)).alloc (.cells #[.int .i64 a, .int .i64 b] 3)).alloc (.cells #[.int .i64 width] 3)) := bal (bal (bal (bal (Below.refl _ _) _) _) _) _
  have hcalls := Lib.hid (k_asked m _ [] [a, b] [width] none (some ⟨w.heap.size + 1 + 1, 0, none⟩) (some ⟨w.heap.size + 1 + 1 + 1, 0, none⟩) 0 2 1 _ (HM.out.below hB0) Rd.nil ((by simpa using rdI_new ((w.alloc (.cells #[.int .i64 m.n, .slice ka m.ks.length kc, .slice oa m.os.length oc] 24)).alloc (.cells #[.int .i64 o] 3)) [a, b] 3 : RdI _ (some ⟨w.heap.size + 1 + 1, 0, none⟩) [a, b]).below (bal (Below.refl _ _) (.cells #[.int .i64 width] 3))) (by simpa using rdI_new (((w.alloc (.cells #[.int .i64 m.n, .slice ka m.ks.length kc, .slice oa m.os.length oc] 24)).alloc (.cells #[.int .i64 o] 3)).alloc (.cells #[.int .i64 a, .int .i64 b] 3)) [width] 3 : RdI _ (some ⟨w.heap.size + 1 + 1 + 1, 0, none⟩) [width]) (by decide) (by simp) (by simp))
  have HM0 := Lib.hid (cal (cal (cal (show (w.alloc (.cells #[.int .i64 m.n, .slice ka m.ks.length kc, .slice oa m.os.length oc] 24)).cell? ⟨w.heap.size, 0, none⟩ = some (.int .i64 m.n) from by simp) (.cells #[.int .i64 o] 3)) (.cells #[.int .i64 a, .int .i64 b] 3)) (.cells #[.int .i64 width] 3))
  have HM1 := Lib.hid (cal (cal (cal (show (w.alloc (.cells #[.int .i64 m.n, .slice ka m.ks.length kc, .slice oa m.os.length oc] 24)).cell? ⟨w.heap.size, 1, none⟩ = some (.slice ka m.ks.length kc) from by simp) (.cells #[.int .i64 o] 3)) (.cells #[.int .i64 a, .int .i64 b] 3)) (.cells #[.int .i64 width] 3))
  have HM2 := Lib.hid (cal (cal (cal (show (w.alloc (.cells #[.int .i64 m.n, .slice ka m.ks.length kc, .slice oa m.os.length oc] 24)).cell? ⟨w.heap.size, 2, none⟩ = some (.slice oa m.os.length oc) from by simp) (.cells #[.int .i64 o] 3)) (.cells #[.int .i64 a, .int .i64 b] 3)) (.cells #[.int .i64 width] 3))
  have HM3 := Lib.hid (cal (cal (show ((w.alloc (.cells #[.int .i64 m.n, .slice ka m.ks.length kc, .slice oa m.os.length oc] 24)).alloc (.cells #[.int .i64 o] 3)).cell? ⟨w.heap.size + 1, 0, none⟩ = some (.int .i64 o) from by simp) (.cells #[.int .i64 a, .int .i64 b] 3)) (.cells #[.int .i64 width] 3))
  by_cases he : askE m [] [a, b] [width] ≠ 0
  · have HF := Lib.hid (show priceF m a b width o = (0, false, askE m [] [a, b] [width]) from if_pos he)
    have HN := Lib.hid (show (askE m [] [a, b] [width] != 0) = true from by rw [bne_iff_ne]; exact he)
    have hne := HN.out
    have HE := Lib.hid he
    clear he
    go_enter Try.func17, Try.ntmps17
    go_wp2_with fail
    refine hcalls.out.mono ?_
    rintro e w1 ⟨rfl, hb⟩
    have hB := bthen hB0 hb
    have m0 := below_cell hb HM0.out
    have m1 := below_cell hb HM1.out
    have m2 := below_cell hb HM2.out
    clear hcalls HM0 HM1 HM2 HM3 hB0 hb
    clear m0 m1 m2
    go_wp2
    go_ret3
    rw [HF.out]
    exact ⟨rfl, hB⟩
  · have he0 : askE m [] [a, b] [width] = 0 := Decidable.of_not_not he
    have HE := Lib.hid he0
    clear he
    obtain ⟨hok, hright, hcl, _⟩ := ask_0 he0
    have HOK := Lib.hid hok
    have hpl := pow_len hok
    have hca := List.all_eq_true.1 hcl a (by simp)
    have hcb := List.all_eq_true.1 hcl b (by simp)
    simp only [okC, Bool.and_eq_true, decide_eq_true_eq] at hca hcb
    obtain ⟨a0, a1⟩ := hca
    obtain ⟨b0, b1⟩ := hcb
    clear hcl
    by_cases ho : ¬ (0 ≤ o ∧ o < m.os.length)
    · have HF := Lib.hid (show priceF m a b width o = (0, false, 1) from by unfold priceF; rw [if_neg (by rw [he0]; simp), if_pos ho])
      clear he0
      go_enter Try.func17, Try.ntmps17
      go_wp2_with fail
      refine hcalls.out.mono ?_
      rintro e w1 ⟨rfl, hb⟩
      rw [HE.out]
      have hB := bthen hB0 hb
      have m0 := below_cell hb HM0.out
      have m1 := below_cell hb HM1.out
      have m2 := below_cell hb HM2.out
      have m3 := below_cell hb HM3.out
      clear hcalls HM0 HM1 HM2 HM3 hB0 hb
      by_cases ho1 : o < 0
      · go_wp2
        go_ret3
        rw [HF.out]
        exact ⟨rfl, hB⟩
      · have ho2 : (m.os.length : Int) ≤ o := by omega
        have ho3 : 0 ≤ o := by omega
        go_wp2
        go_ret3
        rw [HF.out]
        exact ⟨rfl, hB⟩
    · by_cases hr : reachE m a b width ≠ 0
      · have HF := Lib.hid (show priceF m a b width o = (0, false, reachE m a b width) from by unfold priceF; rw [if_neg (by rw [he0]; simp), if_neg ho, if_pos hr])
        have hne : (reachE m a b width != 0) = true := by rw [bne_iff_ne]; exact hr
        have ho1 : 0 ≤ o := by omega
        have ho2 : o < m.os.length := by omega
        have HRR := Lib.hid hr
        clear he0 ho hr
        go_enter Try.func17, Try.ntmps17
        go_wp2_with fail
        refine hcalls.out.mono ?_
        rintro e w1 ⟨rfl, hb⟩
        rw [HE.out]
        have hB := bthen hB0 hb
        have m0 := below_cell hb HM0.out
        have m1 := below_cell hb HM1.out
        have m2 := below_cell hb HM2.out
        have m3 := below_cell hb HM3.out
        clear hcalls HM0 HM1 HM2 HM3 hB0 hb
        have HR := Lib.hid (k_reachable m _ a b width _ (HM.out.below hB))
        go_wp2_with fail
        refine HR.out.mono ?_
        rintro e w2 ⟨rfl, hb1⟩
        have hB2 := bthen hB hb1
        go_wp2
        go_ret3
        rw [HF.out]
        exact ⟨rfl, hB2⟩
      · have hr : reachE m a b width = 0 := Decidable.of_not_not hr
        cases hlw : leastS m.os (woP m a b width o.toNat) with
        | none =>
          have HLW := Lib.hid hlw
          have HF := Lib.hid (show priceF m a b width o = (0, false, 0) from by unfold priceF; rw [if_neg (by rw [he0]; simp), if_neg ho, if_neg (by rw [hr]; simp), hlw])
          have ho1 : 0 ≤ o := by omega
          have ho2 : o < m.os.length := by omega
          have hcw := chC_bd m hok (leastS m.os (withP m a b width o.toNat))
          have hco := chC_bd m hok (leastS m.os (woP m a b width o.toNat))
          rw [hlw] at hco
          simp only [chC] at hco
          have HRR := Lib.hid hr
          clear he0 ho hr hlw hok hright
          go_enter Try.func17, Try.ntmps17
          go_wp2_with fail
          refine hcalls.out.mono ?_
          rintro e w1 ⟨rfl, hb⟩
          rw [HE.out]
          have hB := bthen hB0 hb
          have m0 := below_cell hb HM0.out
          have m1 := below_cell hb HM1.out
          have m2 := below_cell hb HM2.out
          have m3 := below_cell hb HM3.out
          clear hcalls HM0 HM1 HM2 HM3 hB0 hb
          have HR := Lib.hid (k_reachable m _ a b width _ (HM.out.below hB))
          go_wp2_with fail
          refine HR.out.mono ?_
          rintro e w2 ⟨rfl, hb1⟩
          have hB2 := bthen hB hb1
          rw [HRR.out]
          replace m0 := below_cell hb1 m0
          replace m1 := below_cell hb1 m1
          replace m2 := below_cell hb1 m2
          replace m3 := below_cell hb1 m3
          clear hb1 hB HR
          go_wp2_with fail
          refine (k_within m _ a b width _ (by exact HM.out.below hB2) HOK.out a0 a1 b0 b1).mono ?_
          rintro e w3 ⟨fv, rfl, hW, hb2⟩
          have hB3 := bthen hB2 hb2
          replace m0 := below_cell hb2 m0
          replace m1 := below_cell hb2 m1
          replace m2 := below_cell hb2 m2
          replace m3 := below_cell hb2 m3
          clear hb2 hB2
          obtain ⟨g, cb, rfl, eg, hC⟩ := hW
          have HW := Lib.hid (show Want w3 (.func (.func g) #[] cb) (fun s => decide (wdS m s a b ≤ width)) (2 ^ m.os.length) from ⟨g, cb, rfl, eg, hC⟩)
          clear hC eg
          have hlt0 : w.heap.size < w3.heap.size := World.block_lt_of_cell? w3 _ m0
          have hlt1 : w.heap.size + 1 < w3.heap.size := World.block_lt_of_cell? w3 _ m3
          go_wp2_with fail
          have hA1 := bal (Below.refl w3.heap.size w3) (.cells #[.func (.func g) #[] cb] 90)
          obtain ⟨w4, hw4⟩ : ∃ w4, w4 = w3.alloc (.cells #[.func (.func g) #[] cb] 90) := ⟨_, rfl⟩
          have q1 : w4.cell? ⟨w3.heap.size, 0, none⟩ = some (.func (.func g) #[] cb) := by rw [hw4]; simp
          rw [← hw4] at hA1 ⊢
          replace m0 := below_cell hA1 m0
          replace m1 := below_cell hA1 m1
          replace m2 := below_cell hA1 m2
          replace m3 := below_cell hA1 m3
          have hB4 := bthen hB3 hA1
          have HW4 := Lib.hid (HW.out.below hA1)
          have hlt4 : w3.heap.size < w4.heap.size := by rw [hw4]; simp
          clear HW hA1 hw4 hB3
          obtain ⟨x, rfl⟩ := Int.eq_ofNat_of_zero_le ho1
          have hx12 : x < 12 := by have := (okM HOK.out).o12; omega
          have EG1 := Lib.hid (enters_of Try.func69 (by kernel_rfl) rfl)
          have EG2 := Lib.hid (enters_of Try.func71 (by kernel_rfl) rfl)
          have WA : ∀ W, Below w4.heap.size w4 W → Want W (.func (.func 69) #[] #[.pointer (some ⟨w.heap.size + 1, 0, none⟩), .pointer (some ⟨w3.heap.size, 0, none⟩)]) (withP m a b width x) (2 ^ m.os.length) := by
            intro W hW
            refine ⟨_, _, rfl, EG1.out, fun W2 s hW2 hs => ?_⟩
            have h2 := bthen hW hW2
            exact k_Price1 _ _ _ _ _ x s W2 (HW4.out.below h2) (below_cell h2 m3) (below_cell h2 q1) hs hpl hx12
          have WB : ∀ W, Below w4.heap.size w4 W → Want W (.func (.func 71) #[] #[.pointer (some ⟨w.heap.size + 1, 0, none⟩), .pointer (some ⟨w3.heap.size, 0, none⟩)]) (woP m a b width x) (2 ^ m.os.length) := by
            intro W hW
            refine ⟨_, _, rfl, EG2.out, fun W2 s hW2 hs => ?_⟩
            have h2 := bthen hW hW2
            exact k_Price2 _ _ _ _ _ x s W2 (HW4.out.below h2) (below_cell h2 m3) (below_cell h2 q1) hs hpl hx12
          have HWA := Lib.hid WA
          have HWB := Lib.hid WB
          clear WA WB HW4 EG1 EG2 q1
          have hto : ((x : Int)).toNat = x := rfl
          rw [hto] at hcw HLW
          obtain ⟨lw, hlw⟩ : ∃ lw, lw = leastS m.os (withP m a b width x) := ⟨_, rfl⟩
          rw [← hlw] at hcw
          have HLA := Lib.hid hlw
          clear hlw hto
          go_wp2_with fail
          refine (k_least m _ _ _ _ (HM.out.below hB4) HOK.out (HWA.out _ (Below.refl _ _))).mono ?_
          rintro e w5 ⟨rfl, hb5⟩
          rw [← HLA.out]
          have hB5 := bthen hB4 hb5
          replace m0 := below_cell hb5 m0
          replace m1 := below_cell hb5 m1
          replace m2 := below_cell hb5 m2
          have hlt5 : w.heap.size < w5.heap.size := by have := hb5.size; omega
          go_wp2_with fail
          have hA5 := bal (Below.refl w5.heap.size w5) (.cells #[.bool (chB lw), .int .i64 (chC m.os lw), .int .i64 (chS lw)] 101)
          obtain ⟨w6, hw6⟩ : ∃ w6, w6 = w5.alloc (.cells #[.bool (chB lw), .int .i64 (chC m.os lw), .int .i64 (chS lw)] 101) := ⟨_, rfl⟩
          have q5 : w6.cell? ⟨w5.heap.size, 1, none⟩ = some (.int .i64 (chC m.os lw)) := by rw [hw6]; simp
          rw [← hw6] at hA5 ⊢
          replace m0 := below_cell hA5 m0
          replace m1 := below_cell hA5 m1
          replace m2 := below_cell hA5 m2
          have hB6 := bthen hB5 hA5
          have hb46 := bthen hb5 hA5
          clear hA5 hw6 hB5 hb5 hB4
          go_wp2_with fail
          refine (k_least m _ _ _ _ (HM.out.below hB6) HOK.out (HWB.out _ hb46)).mono ?_
          rintro e w7 ⟨rfl, hb7⟩
          rw [HLW.out]
          simp only [chB, chC, chS]
          have hB7 := bthen hB6 hb7
          have q6 := below_cell hb7 q5
          have hlt6 : w5.heap.size < w7.heap.size := World.block_lt_of_cell? w7 _ q6
          clear HWA HWB hb46 hb7 hB6 q5 m0 m1 m2
          go_wp2
          all_goals
            go_ret3
            rw [HF.out]
            exact ⟨rfl, bal hB7 _⟩
        | some t =>
          have HLW := Lib.hid hlw
          have HF := Lib.hid (show priceF m a b width o = (costL m.os (bits 12 t) - chC m.os (leastS m.os (withP m a b width o.toNat)), true, 0) from by unfold priceF; rw [if_neg (by rw [he0]; simp), if_neg ho, if_neg (by rw [hr]; simp), hlw])
          have ho1 : 0 ≤ o := by omega
          have ho2 : o < m.os.length := by omega
          have hcw := chC_bd m hok (leastS m.os (withP m a b width o.toNat))
          have hco := chC_bd m hok (leastS m.os (woP m a b width o.toNat))
          rw [hlw] at hco
          simp only [chC] at hco
          have HRR := Lib.hid hr
          clear he0 ho hr hlw hok hright
          go_enter Try.func17, Try.ntmps17
          go_wp2_with fail
          refine hcalls.out.mono ?_
          rintro e w1 ⟨rfl, hb⟩
          rw [HE.out]
          have hB := bthen hB0 hb
          have m0 := below_cell hb HM0.out
          have m1 := below_cell hb HM1.out
          have m2 := below_cell hb HM2.out
          have m3 := below_cell hb HM3.out
          clear hcalls HM0 HM1 HM2 HM3 hB0 hb
          have HR := Lib.hid (k_reachable m _ a b width _ (HM.out.below hB))
          go_wp2_with fail
          refine HR.out.mono ?_
          rintro e w2 ⟨rfl, hb1⟩
          have hB2 := bthen hB hb1
          rw [HRR.out]
          replace m0 := below_cell hb1 m0
          replace m1 := below_cell hb1 m1
          replace m2 := below_cell hb1 m2
          replace m3 := below_cell hb1 m3
          clear hb1 hB HR
          go_wp2_with fail
          refine (k_within m _ a b width _ (by exact HM.out.below hB2) HOK.out a0 a1 b0 b1).mono ?_
          rintro e w3 ⟨fv, rfl, hW, hb2⟩
          have hB3 := bthen hB2 hb2
          replace m0 := below_cell hb2 m0
          replace m1 := below_cell hb2 m1
          replace m2 := below_cell hb2 m2
          replace m3 := below_cell hb2 m3
          clear hb2 hB2
          obtain ⟨g, cb, rfl, eg, hC⟩ := hW
          have HW := Lib.hid (show Want w3 (.func (.func g) #[] cb) (fun s => decide (wdS m s a b ≤ width)) (2 ^ m.os.length) from ⟨g, cb, rfl, eg, hC⟩)
          clear hC eg
          have hlt0 : w.heap.size < w3.heap.size := World.block_lt_of_cell? w3 _ m0
          have hlt1 : w.heap.size + 1 < w3.heap.size := World.block_lt_of_cell? w3 _ m3
          go_wp2_with fail
          have hA1 := bal (Below.refl w3.heap.size w3) (.cells #[.func (.func g) #[] cb] 90)
          obtain ⟨w4, hw4⟩ : ∃ w4, w4 = w3.alloc (.cells #[.func (.func g) #[] cb] 90) := ⟨_, rfl⟩
          have q1 : w4.cell? ⟨w3.heap.size, 0, none⟩ = some (.func (.func g) #[] cb) := by rw [hw4]; simp
          rw [← hw4] at hA1 ⊢
          replace m0 := below_cell hA1 m0
          replace m1 := below_cell hA1 m1
          replace m2 := below_cell hA1 m2
          replace m3 := below_cell hA1 m3
          have hB4 := bthen hB3 hA1
          have HW4 := Lib.hid (HW.out.below hA1)
          have hlt4 : w3.heap.size < w4.heap.size := by rw [hw4]; simp
          clear HW hA1 hw4 hB3
          obtain ⟨x, rfl⟩ := Int.eq_ofNat_of_zero_le ho1
          have hx12 : x < 12 := by have := (okM HOK.out).o12; omega
          have EG1 := Lib.hid (enters_of Try.func69 (by kernel_rfl) rfl)
          have EG2 := Lib.hid (enters_of Try.func71 (by kernel_rfl) rfl)
          have WA : ∀ W, Below w4.heap.size w4 W → Want W (.func (.func 69) #[] #[.pointer (some ⟨w.heap.size + 1, 0, none⟩), .pointer (some ⟨w3.heap.size, 0, none⟩)]) (withP m a b width x) (2 ^ m.os.length) := by
            intro W hW
            refine ⟨_, _, rfl, EG1.out, fun W2 s hW2 hs => ?_⟩
            have h2 := bthen hW hW2
            exact k_Price1 _ _ _ _ _ x s W2 (HW4.out.below h2) (below_cell h2 m3) (below_cell h2 q1) hs hpl hx12
          have WB : ∀ W, Below w4.heap.size w4 W → Want W (.func (.func 71) #[] #[.pointer (some ⟨w.heap.size + 1, 0, none⟩), .pointer (some ⟨w3.heap.size, 0, none⟩)]) (woP m a b width x) (2 ^ m.os.length) := by
            intro W hW
            refine ⟨_, _, rfl, EG2.out, fun W2 s hW2 hs => ?_⟩
            have h2 := bthen hW hW2
            exact k_Price2 _ _ _ _ _ x s W2 (HW4.out.below h2) (below_cell h2 m3) (below_cell h2 q1) hs hpl hx12
          have HWA := Lib.hid WA
          have HWB := Lib.hid WB
          clear WA WB HW4 EG1 EG2 q1
          have hto : ((x : Int)).toNat = x := rfl
          rw [hto] at hcw HLW HF
          obtain ⟨lw, hlw⟩ : ∃ lw, lw = leastS m.os (withP m a b width x) := ⟨_, rfl⟩
          rw [← hlw] at hcw HF
          have HLA := Lib.hid hlw
          clear hlw hto
          go_wp2_with fail
          refine (k_least m _ _ _ _ (HM.out.below hB4) HOK.out (HWA.out _ (Below.refl _ _))).mono ?_
          rintro e w5 ⟨rfl, hb5⟩
          rw [← HLA.out]
          have hB5 := bthen hB4 hb5
          replace m0 := below_cell hb5 m0
          replace m1 := below_cell hb5 m1
          replace m2 := below_cell hb5 m2
          have hlt5 : w.heap.size < w5.heap.size := by have := hb5.size; omega
          go_wp2_with fail
          have hA5 := bal (Below.refl w5.heap.size w5) (.cells #[.bool (chB lw), .int .i64 (chC m.os lw), .int .i64 (chS lw)] 101)
          obtain ⟨w6, hw6⟩ : ∃ w6, w6 = w5.alloc (.cells #[.bool (chB lw), .int .i64 (chC m.os lw), .int .i64 (chS lw)] 101) := ⟨_, rfl⟩
          have q5 : w6.cell? ⟨w5.heap.size, 1, none⟩ = some (.int .i64 (chC m.os lw)) := by rw [hw6]; simp
          rw [← hw6] at hA5 ⊢
          replace m0 := below_cell hA5 m0
          replace m1 := below_cell hA5 m1
          replace m2 := below_cell hA5 m2
          have hB6 := bthen hB5 hA5
          have hb46 := bthen hb5 hA5
          clear hA5 hw6 hB5 hb5 hB4
          go_wp2_with fail
          refine (k_least m _ _ _ _ (HM.out.below hB6) HOK.out (HWB.out _ hb46)).mono ?_
          rintro e w7 ⟨rfl, hb7⟩
          rw [HLW.out]
          simp only [chB, chC, chS]
          have hB7 := bthen hB6 hb7
          have q6 := below_cell hb7 q5
          have hlt6 : w5.heap.size < w7.heap.size := World.block_lt_of_cell? w7 _ q6
          clear HWA HWB hb46 hb7 hB6 q5 m0 m1 m2
          go_wp2
          all_goals
            go_ret3
            rw [HF.out]
            exact ⟨rfl, bal hB7 _⟩

end Go.Proofs.Ytjdldmecjhddnaa
