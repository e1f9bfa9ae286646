/- Plain mathematics of KeeperWorth: needed offers, prices, and the least width for a cost, beside Best. -/
import Derived.Test.YtjdldmecjhddnaaKM6
import Derived.Test.YtjdldmecjhddnaaK12
namespace Go.Proofs.Ytjdldmecjhddnaa
set_option linter.unusedVariables false
set_option linter.unusedSimpArgs false

theorem drop_bit12 : ∀ n, n < 13 → ∀ x, x < n → ∀ i, i < 12 → (2 ^ n - 1 - 2 ^ x).testBit i = (decide (i < n) && !decide (i = x)) := by decide +kernel
theorem drop_bit {m : Mk} (h12 : m.os.length ≤ 12) {x : Nat} (hx : x < m.os.length) (i : Nat) : (dropN m x).testBit i = (decide (i < m.os.length) && !decide (i = x)) := by
  by_cases h : i < 12
  · exact drop_bit12 _ (by omega) x hx i h
  · cases e : (dropN m x).testBit i with
    | true => have := bit_lt (dropN_lt m x) e; omega
    | false => rw [decide_eq_false (show ¬ i < m.os.length by omega)]; rfl
theorem wdS_mono {m : Mk} (hok : m.ok = true) {s t : Nat} (hs : s < 2 ^ m.os.length) (ht : t < 2 ^ m.os.length) (h : ∀ i, s.testBit i = true → t.testBit i = true) {a b : Int} (ha : 0 ≤ a ∧ a < m.n) (hb : 0 ≤ b ∧ b < m.n) : wdS m t a b ≤ wdS m s a b :=
  wd_mono (fun o ho => (comps_offS hok hs o ho).w0) (fun o ho => (comps_offS hok ht o ho).w0) (comps_sub (okM hok).o12 hs ht h) _ _ (by omega) (by omega)
theorem all_bit {m : Mk} (i : Nat) : (allN m).testBit i = decide (i < m.os.length) := by unfold allN; rw [Nat.testBit_two_pow_sub_one]
theorem all_lt (m : Mk) : allN m < 2 ^ m.os.length := by unfold allN; have := Nat.two_pow_pos m.os.length; omega
theorem need_mem {m : Mk} {a b width : Int} {k x : Nat} : (x : Int) ∈ needL m a b width k ↔ x < k ∧ ¬ wdS m (dropN m x) a b ≤ width := by
  unfold needL
  rw [List.mem_map]
  constructor
  · rintro ⟨i, hi, e⟩
    obtain rfl : i = x := Int.ofNat.inj e
    have := List.mem_filter.1 hi
    exact ⟨List.mem_range.1 this.1, by simpa using this.2⟩
  · rintro ⟨h1, h2⟩
    exact ⟨x, List.mem_filter.2 ⟨List.mem_range.2 h1, by simpa using h2⟩, rfl⟩
theorem minN_le {m : Mk} {a b c : Int} : ∀ {k s : Nat}, s < k → costL m.os (bits 12 s) ≤ c → minN m a b c k ≤ wdS m s a b
  | 0, s, hs, _ => absurd hs (Nat.not_lt_zero _)
  | k + 1, s, hs, hc => by
    unfold minN
    by_cases e : s = k
    · subst e
      rw [if_pos hc]
      split <;> omega
    · have := minN_le (m := m) (a := a) (b := b) (c := c) (show s < k by omega) hc
      split
      · split <;> omega
      · exact this
theorem minN_att {m : Mk} {a b c : Int} : ∀ k, minN m a b c k = 1099511627776 ∨ ∃ s, s < k ∧ costL m.os (bits 12 s) ≤ c ∧ minN m a b c k = wdS m s a b
  | 0 => .inl rfl
  | k + 1 => by
    unfold minN
    have ih := minN_att (m := m) (a := a) (b := b) (c := c) k
    have lift : (minN m a b c k = 1099511627776 ∨ ∃ s, s < k ∧ costL m.os (bits 12 s) ≤ c ∧ minN m a b c k = wdS m s a b) → (minN m a b c k = 1099511627776 ∨ ∃ s, s < k + 1 ∧ costL m.os (bits 12 s) ≤ c ∧ minN m a b c k = wdS m s a b) := by
      rintro (h | ⟨s, h1, h2, h3⟩)
      · exact .inl h
      · exact .inr ⟨s, by omega, h2, h3⟩
    split
    · split
      · rename_i h1 h2
        exact .inr ⟨k, by omega, h1, rfl⟩
      · exact lift ih
    · exact lift ih
theorem bits_at {s x : Nat} (hs : s < 4096) : (x : Int) ∈ bits 12 s ↔ s.testBit x = true := by
  rw [mem_bits]
  constructor
  · exact fun h => h.2.2
  · intro h
    have := bit_lt (k := 12) hs h
    exact ⟨by omega, by omega, h⟩
/-- Nothing makes the clocks known within the width. -/
theorem worth_none {m : Mk} {a b width : Int} {x : Nat} (hask : askedB m [] [a, b] = true) (h0 : 0 ≤ width) (h1 : width ≤ 16777216) (hx : x < m.os.length) (h : leastS m.os (fun s => decide (wdS m s a b ≤ width)) = none) :
    bestF m a b width = ([], false, 0) ∧ neededF m a b width = ([], 4) ∧ priceF m a b width x = (0, false, 4) := by
  obtain ⟨_, _, hok, _, hcl⟩ := asked_yes hask
  have hb : askE m [] [a, b] [width] = 0 := ask_of hok (right_nil _) hcl (size_ok h0 h1)
  have hr : reachE m a b width = 4 := by
    unfold reachE
    rw [if_neg (by rw [hb]; simp), if_neg]
    have := leastS_none h (allN m) (all_lt m)
    exact of_decide_eq_false this
  refine ⟨by unfold bestF; rw [h]; exact found_none hb, by unfold neededF; rw [hr]; rfl, ?_⟩
  unfold priceF
  rw [if_neg (by rw [hb]; simp), if_neg (by simp; omega), if_pos (by rw [hr]; decide), hr]
/-- What the law asks of the best choice. -/
theorem worth_some {m : Mk} {a b width : Int} {x : Nat} (hask : askedB m [] [a, b] = true) (h0 : 0 ≤ width) (h1 : width ≤ 16777216) (hx : x < m.os.length) {s : Nat} (h : leastS m.os (fun s => decide (wdS m s a b ≤ width)) = some s) :
    ∃ bl nl n bd cin c w1 w2 w2b, bestF m a b width = (bl, true, 0) ∧ neededF m a b width = (nl, 0) ∧ priceF m a b width x = (n, bd, 0) ∧ decide ((x : Int) ∈ bl) = cin ∧ decide ((x : Int) ∈ nl) = !bd ∧ bl.length ≤ 140737488355328 ∧ nl.length ≤ 140737488355328
      ∧ (bd = false → cin = true) ∧ (bd = true → cin = true → 0 ≤ n) ∧ (bd = true → cin = false → n ≤ 0)
      ∧ costF m bl = (c, 0) ∧ leastF m a b c = (w1, true, 0) ∧ w1 ≤ width ∧ 0 ≤ c ∧ c ≤ 120000 ∧ (c ≠ 0 → leastF m a b (c - 1) = (w2, w2b, 0)) ∧ (w2b = true → width < w2) := by
  obtain ⟨_, _, hok, _, hcl⟩ := asked_yes hask
  have hcl' := clock_bd hcl
  have ha := hcl' a (by simp)
  have hb' := hcl' b (by simp)
  have h12 := (okM hok).o12
  have hb : askE m [] [a, b] [width] = 0 := ask_of hok (right_nil _) hcl (size_ok h0 h1)
  obtain ⟨hp, hs, hmin⟩ := leastS_some h
  have hp' : wdS m s a b ≤ width := of_decide_eq_true hp
  have hpl := pow_len hok
  have hr : reachE m a b width = 0 := by
    unfold reachE
    rw [if_neg (by rw [hb]; simp), if_pos]
    have := wdS_mono hok hs (all_lt m) (fun i hi => by rw [all_bit]; exact decide_eq_true (bit_lt hs hi)) ha hb'
    omega
  have hcs := chC_bd m hok (some s)
  have hsw : askE m [] [a, b] [costS m.os s] = 0 := ask_of hok (right_nil _) hcl (size_ok hcs.1 (by have := hcs.2; show costL m.os (bits 12 s) ≤ _; unfold chC at this; simp only at this; omega))
  have hl1 : ∃ w1, leastF m a b (costS m.os s) = (w1, true, 0) ∧ w1 ≤ width := by
    have := minN_le (a := a) (b := b) hs (Int.le_refl (costS m.os s))
    exact ⟨minN m a b (costS m.os s) (2 ^ m.os.length), by unfold leastF; rw [if_neg (by rw [hsw]; simp), if_neg (by omega)], by omega⟩
  have hl2 : ∃ w2 w2b, (costS m.os s ≠ 0 → leastF m a b (costS m.os s - 1) = (w2, w2b, 0)) ∧ (w2b = true → width < w2) := by
    by_cases hc0 : costS m.os s = 0
    · exact ⟨0, false, fun h => absurd hc0 h, fun h => by cases h⟩
    have hsw' : askE m [] [a, b] [costS m.os s - 1] = 0 := ask_of hok (right_nil _) hcl (size_ok (by have := hcs.1; unfold chC at this; simp only at this; have h' : 0 ≤ costS m.os s := this; omega) (by have := hcs.2; unfold chC at this; simp only at this; have h' : costS m.os s ≤ 120000 := this; omega))
    by_cases hf : 1099511627776 ≤ minN m a b (costS m.os s - 1) (2 ^ m.os.length)
    · exact ⟨0, false, fun _ => by unfold leastF; rw [if_neg (by rw [hsw']; simp), if_pos hf], fun h => by cases h⟩
    · refine ⟨_, true, fun _ => by unfold leastF; rw [if_neg (by rw [hsw']; simp), if_neg hf], fun _ => ?_⟩
      rcases minN_att (m := m) (a := a) (b := b) (c := costS m.os s - 1) (2 ^ m.os.length) with e | ⟨t, ht, hc, e⟩
      · omega
      · rw [e]
        rcases Int.lt_or_le width (wdS m t a b) with h' | h'
        · exact h'
        · have := Bf.le (hmin t ht (decide_eq_true h'))
          have h2 : costS m.os t ≤ costS m.os s - 1 := hc
          have h3 : costS m.os s ≤ costS m.os t := this
          omega
  obtain ⟨w1, hw1, hw1'⟩ := hl1
  obtain ⟨w2, w2b, hw2, hw2'⟩ := hl2
  have hdrop : ∀ t, t < 2 ^ m.os.length → t.testBit x = false → wdS m (dropN m x) a b ≤ wdS m t a b := fun t ht hb => wdS_mono hok ht (dropN_lt m x) (fun i hi => by
    rw [drop_bit h12 hx, decide_eq_true (bit_lt ht hi)]
    by_cases e : i = x
    · subst e; rw [hb] at hi; cases hi
    · simp [e]) ha hb'
  have hprice : ∃ n bd, priceF m a b width x = (n, bd, 0) ∧ (decide ((x : Int) ∈ needL m a b width m.os.length) = !bd) ∧ (bd = false → s.testBit x = true) ∧ (bd = true → s.testBit x = true → 0 ≤ n) ∧ (bd = true → s.testBit x = false → n ≤ 0) := by
    cases hw : leastS m.os (woP m a b width x) with
    | none =>
      have hno := leastS_none hw
      refine ⟨0, false, ?_, ?_, fun _ => ?_, fun h => (by cases h), fun h => (by cases h)⟩
      · unfold priceF
        rw [if_neg (by rw [hb]; simp), if_neg (by simp; omega), if_neg (by rw [hr]; simp), show (x : Int).toNat = x from rfl, hw]
      · refine decide_eq_true (need_mem.2 ⟨hx, fun hle => ?_⟩)
        have := hno _ (dropN_lt m x)
        unfold woP at this
        rw [drop_bit h12 hx, decide_eq_true hle] at this
        simp at this
      · have := hno s hs
        unfold woP at this
        rw [hp] at this
        simpa using this
    | some t =>
      obtain ⟨ht1, ht, htm⟩ := leastS_some hw
      have ht1' := ht1
      unfold woP at ht1'
      simp only [Bool.and_eq_true, Bool.not_eq_true', decide_eq_true_eq] at ht1'
      obtain ⟨u, hu⟩ : ∃ u, leastS m.os (withP m a b width x) = some u := by
        cases e : leastS m.os (withP m a b width x) with
        | some u => exact ⟨u, rfl⟩
        | none =>
          have := leastS_none e (allN m) (all_lt m)
          unfold withP at this
          rw [all_bit, decide_eq_true hx, decide_eq_true (show wdS m (allN m) a b ≤ width from (reach_0 hr).2)] at this
          cases this
      obtain ⟨hu1, hu', hum⟩ := leastS_some hu
      have hu2 := hu1
      unfold withP at hu2
      simp only [Bool.and_eq_true, decide_eq_true_eq] at hu2
      have hst := Bf.le (hmin t ht (decide_eq_true ht1'.2))
      have hsu := Bf.le (hmin u hu' (decide_eq_true hu2.2))
      refine ⟨costS m.os t - costS m.os u, true, ?_, ?_, fun h => (by cases h), fun _ hin => ?_, fun _ hin => ?_⟩
      · unfold priceF
        rw [if_neg (by rw [hb]; simp), if_neg (by simp; omega), if_neg (by rw [hr]; simp), show (x : Int).toNat = x from rfl, hw, hu]
        rfl
      · refine decide_eq_false fun hm => (need_mem.1 hm).2 ?_
        have := hdrop t ht ht1'.1
        omega
      · have := Bf.le (hum s hs (by unfold withP; rw [hin, hp]; rfl))
        omega
      · have := Bf.le (htm s hs (by unfold woP; rw [hin, hp]; rfl))
        omega
  obtain ⟨n, bd, e3, q1, q2, q3, q4⟩ := hprice
  have hmem : decide ((x : Int) ∈ bits 12 s) = s.testBit x := by
    rw [Bool.eq_iff_iff, decide_eq_true_eq, bits_at (by omega)]
  exact ⟨bits 12 s, needL m a b width m.os.length, n, bd, s.testBit x, costS m.os s, w1, w2, w2b, by unfold bestF; rw [h]; exact found_some hb, by unfold neededF; rw [if_neg (by rw [hr]; simp)], e3, hmem, q1, bits_small s, by have := needL_len m a b width m.os.length; omega, q2, q3, q4,
    cost_bits hok hs, hw1, hw1', hcs.1, hcs.2, hw2, hw2'⟩
end Go.Proofs.Ytjdldmecjhddnaa
