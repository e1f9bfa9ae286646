/- Plain mathematics of bought sets: who is a comparison, sums of costs, numbers of offers; a tree buys fewer offers than there are clocks. -/
import Derived.Test.YtjdldmecjhddnaaKM4
import Derived.Test.YtjdldmecjhddnaaK10
namespace Go.Proofs.Ytjdldmecjhddnaa
set_option linter.unusedVariables false
set_option linter.unusedSimpArgs false

theorem ask_of {m : Mk} {l cl sz : List Int} (h : m.ok = true) (hr : right m.os.length l = true) (hc : cl.all (okC m.n) = true) (hs : sz.all okS = true) : askE m l cl sz = 0 := by
  unfold askE; rw [if_pos h, if_pos hr, if_pos hc, if_pos hs]
theorem bit_lt {k s x : Nat} (h : s < 2 ^ k) (hb : s.testBit x = true) : x < k := by
  rcases Nat.lt_or_ge x k with h' | h'
  · exact h'
  · rw [Nat.testBit_lt_two_pow (Nat.lt_of_lt_of_le h (Nat.pow_le_pow_right (by decide) h'))] at hb; cases hb
theorem right_bits {k s : Nat} (h : s < 2 ^ k) : right k (bits 12 s) = true := by
  rw [right_iff]
  intro i hi
  have hg : ∀ j, j < (bits 12 s).length → (bits 12 s).getD j 0 ∈ bits 12 s := fun j hj => by
    rw [List.getD_eq_getElem?_getD, List.getElem?_eq_getElem hj]; exact List.getElem_mem hj
  have h1 := mem_bits.1 (hg i hi)
  have h2 := bit_lt h h1.2.2
  refine ⟨h1.1, by omega, ?_⟩
  rcases i with _ | i
  · exact .inl rfl
  · right
    have := List.pairwise_iff_getElem.1 (bits_sorted 12 s) i (i + 1) (by omega) hi (by omega)
    rw [List.getD_eq_getElem?_getD, List.getD_eq_getElem?_getD, List.getElem?_eq_getElem hi, List.getElem?_eq_getElem (show i + 1 - 1 < (bits 12 s).length by omega)]
    exact this
theorem comps_mem {m : Mk} {s : Nat} (h12 : m.os.length ≤ 12) (hs : s < 2 ^ m.os.length) {o : Off} : o ∈ comps m (bits 12 s) ↔ o ∈ m.ks ∨ ∃ i, s.testBit i = true ∧ m.os[i]? = some o := by
  unfold comps sel
  rw [List.mem_append, List.mem_map]
  constructor
  · rintro (h | ⟨x, hx, rfl⟩)
    · exact .inl h
    · obtain ⟨a, b, c⟩ := mem_bits.1 hx
      have := bit_lt hs c
      exact .inr ⟨x.toNat, c, by rw [List.getD_eq_getElem?_getD, List.getElem?_eq_getElem this]; rfl⟩
  · rintro (h | ⟨i, hi, ho⟩)
    · exact .inl h
    · have := bit_lt hs hi
      exact .inr ⟨(i : Int), mem_bits.2 ⟨by omega, by omega, hi⟩, by rw [Int.toNat_natCast, List.getD_eq_getElem?_getD, ho]; rfl⟩
theorem comps_sub {m : Mk} {s t : Nat} (h12 : m.os.length ≤ 12) (hs : s < 2 ^ m.os.length) (ht : t < 2 ^ m.os.length) (h : ∀ i, s.testBit i = true → t.testBit i = true) : ∀ o ∈ comps m (bits 12 s), o ∈ comps m (bits 12 t) := by
  intro o ho
  rcases (comps_mem h12 hs).1 ho with h1 | ⟨i, h1, h2⟩
  · exact (comps_mem h12 ht).2 (.inl h1)
  · exact (comps_mem h12 ht).2 (.inr ⟨i, h i h1, h2⟩)
theorem comps_offS {m : Mk} (hok : m.ok = true) {s : Nat} (hs : s < 2 ^ m.os.length) : ∀ o ∈ comps m (bits 12 s), IsOff o m.n 10000 := by
  intro o ho
  rcases (comps_mem (okM hok).o12 hs).1 ho with h1 | ⟨i, h1, h2⟩
  · have := isOff_iff ((okM hok).ks o h1)
    obtain ⟨p1, p2, p3, p4, p5, p6, p7, p8, p9⟩ := this
    constructor <;> first | assumption | omega
  · exact isOff_iff ((okM hok).os o (List.mem_of_getElem? h2))

/-- The sum of the costs of the offers below k of which p speaks; their number. -/
def sumC (os : List Off) (p : Nat → Bool) : Nat → Int
  | 0 => 0
  | k + 1 => sumC os p k + if p k then (os.getD k default).C else 0
def cntN (p : Nat → Bool) : Nat → Nat
  | 0 => 0
  | k + 1 => cntN p k + if p k then 1 else 0
theorem bits_suc (k s : Nat) : bits (k + 1) s = bits k s ++ if s.testBit k then [(k : Int)] else [] := by
  unfold bits
  rw [List.range_succ, List.filter_append, List.map_append]
  congr 1
  cases h : s.testBit k <;> simp [h]
theorem costL_app (os : List Off) (l : List Int) (x : Int) : costL os (l ++ [x]) = costL os l + (os.getD x.toNat default).C := by
  unfold costL sel; rw [List.map_append, List.foldl_append]; rfl
theorem cost_sum (os : List Off) (s : Nat) : ∀ k, costL os (bits k s) = sumC os s.testBit k
  | 0 => rfl
  | k + 1 => by
    rw [bits_suc, sumC]
    cases h : s.testBit k with
    | true => simp only [if_true]; rw [costL_app, cost_sum os s k]; rfl
    | false => simp [cost_sum os s k]
theorem bits_cnt (s : Nat) : ∀ k, (bits k s).length = cntN s.testBit k
  | 0 => rfl
  | k + 1 => by
    rw [bits_suc, cntN, List.length_append, bits_cnt s k]
    cases h : s.testBit k <;> simp
theorem sumC_le {os : List Off} {p q : Nat → Bool} (hc : ∀ i, 0 ≤ (os.getD i default).C) (h : ∀ i, p i = true → q i = true) : ∀ k, sumC os p k ≤ sumC os q k
  | 0 => Int.le_refl _
  | k + 1 => by
    have := sumC_le hc h k; have := hc k; have := h k
    unfold sumC
    cases hp : p k with
    | true => rw [h k hp]; simp only [if_true]; omega
    | false => cases q k <;> simp only [if_true, Bool.false_eq_true, if_false] <;> omega
theorem cntN_le {p q : Nat → Bool} (h : ∀ i, p i = true → q i = true) : ∀ k, cntN p k ≤ cntN q k
  | 0 => Nat.le_refl _
  | k + 1 => by
    have := cntN_le h k
    unfold cntN
    cases hp : p k with
    | true => rw [h k hp]; simp only [if_true]; omega
    | false => cases q k <;> simp only [if_true, Bool.false_eq_true, if_false] <;> omega
theorem cntN_put {p q : Nat → Bool} {x : Nat} (h : ∀ i, i ≠ x → q i = p i) : ∀ k, cntN q k ≤ cntN p k + if x < k then 1 else 0
  | 0 => Nat.zero_le _
  | k + 1 => by
    have := cntN_put h k
    unfold cntN
    by_cases e : k = x
    · subst e
      rw [if_neg (Nat.lt_irrefl k)] at this
      rw [if_pos (Nat.lt_succ_self k)]
      cases q k <;> cases p k <;> simp only [if_true, Bool.false_eq_true, if_false] <;> omega
    · rw [h k e]
      by_cases hx : x < k
      · rw [if_pos hx] at this; rw [if_pos (show x < k + 1 by omega)]; cases p k <;> simp only [if_true, Bool.false_eq_true, if_false] <;> omega
      · rw [if_neg hx] at this; rw [if_neg (show ¬ x < k + 1 by omega)]; cases p k <;> simp only [if_true, Bool.false_eq_true, if_false] <;> omega
theorem cntN_more {p q : Nat → Bool} {x : Nat} (hp : p x = false) (hq : q x = true) (h : ∀ i, p i = true → q i = true) : ∀ k, x < k → cntN p k + 1 ≤ cntN q k
  | 0, hx => absurd hx (Nat.not_lt_zero _)
  | k + 1, hx => by
    unfold cntN
    by_cases e : k = x
    · subst e
      have := cntN_le h k
      rw [hp, hq]; simp only [if_true, Bool.false_eq_true, if_false]; omega
    · have := cntN_more hp hq h k (by omega)
      cases hk : p k with
      | true => rw [h k hk]; simp only [if_true]; omega
      | false => cases q k <;> simp only [if_true, Bool.false_eq_true, if_false] <;> omega
theorem cntN_bd (p : Nat → Bool) : ∀ k, cntN p k ≤ k
  | 0 => Nat.le_refl _
  | k + 1 => by
    have := cntN_bd p k
    unfold cntN
    cases p k <;> simp only [if_true, Bool.false_eq_true, if_false] <;> omega
theorem cntN_full {p : Nat → Bool} : ∀ {k : Nat}, k ≤ cntN p k → ∀ j, j < k → p j = true
  | 0, _, j, hj => absurd hj (Nat.not_lt_zero _)
  | k + 1, h, j, hj => by
    have := cntN_bd p k
    unfold cntN at h
    cases hk : p k with
    | false => rw [hk] at h; simp only [Bool.false_eq_true, if_false] at h; omega
    | true =>
      rw [hk] at h; simp only [if_true] at h
      by_cases e : j = k
      · subst e; exact hk
      · exact cntN_full (k := k) (by omega) j (by omega)
theorem costS_mono {m : Mk} (hok : m.ok = true) {s t : Nat} (h : ∀ i, s.testBit i = true → t.testBit i = true) : costS m.os s ≤ costS m.os t := by
  show costL m.os (bits 12 s) ≤ costL m.os (bits 12 t)
  rw [cost_sum, cost_sum]
  refine sumC_le (fun i => ?_) h 12
  rw [List.getD_eq_getElem?_getD]
  cases e : m.os[i]? with
  | none => exact Int.le_refl _
  | some o => exact (isOff_iff ((okM hok).os o (List.mem_of_getElem? e))).c0

/-- From the first clock, one clock after the other is reached by at most one more offer each. -/
theorem grow {m : Mk} (hok : m.ok = true) {b : Nat} (hb : b < 2 ^ m.os.length) {N : Nat} (hN : N = m.n.toNat) (hall : ∀ j, j < N → wd N (comps m (bits 12 b)) 0 j < far) :
    ∀ k, k + 1 ≤ N → ∃ (S : Nat → Bool) (t : Nat), S 0 = true ∧ k + 1 ≤ cntN S N ∧ t < 2 ^ m.os.length ∧ (∀ i, t.testBit i = true → b.testBit i = true) ∧ cntN t.testBit 12 ≤ k ∧ ∀ j, j < N → S j = true → wd N (comps m (bits 12 t)) 0 j < far
  | 0, hk => by
    refine ⟨fun j => decide (j = 0), 0, by simp, ?_, Nat.two_pow_pos _, fun i hi => by simp at hi, by decide, fun j hj hs => ?_⟩
    · have := cntN_more (p := fun _ => false) (q := fun j => decide (j = 0)) (x := 0) rfl (by simp) (fun i h => by cases h) N (by omega)
      omega
    · obtain rfl : j = 0 := by simpa using hs
      rw [wd_self (fun o ho => (comps_offS hok (Nat.two_pow_pos _) o ho).w0) 0 hj]; decide
  | k + 1, hk => by
    obtain ⟨S, t, h0, hS, ht, hsub, hcnt, hr⟩ := grow hok hb hN hall k (by omega)
    have h12 := (okM hok).o12
    have hn8 := (okM hok).n8
    by_cases hfull : k + 1 + 1 ≤ cntN S N
    · exact ⟨S, t, h0, hfull, ht, hsub, by omega, hr⟩
    · -- a clock outside, and a comparison that leads out
      have hwb := fun o ho => (comps_offS hok hb o ho).w0
      have hwt := fun o ho => (comps_offS hok ht o ho).w0
      have hex : ∃ o ∈ comps m (bits 12 b), ∃ x y, x < N ∧ y < N ∧ S x = true ∧ S y = false ∧ joins o x y = true := by
        apply Classical.byContradiction
        intro hno
        have hout : ∃ j, j < N ∧ S j = false := by
          apply Classical.byContradiction
          intro h
          have hle : N ≤ cntN S N := by
            have : ∀ K, K ≤ N → K ≤ cntN S K := by
              intro K
              induction K with
              | zero => intro _; exact Nat.zero_le _
              | succ K ih =>
                intro hK
                have := ih (by omega)
                unfold cntN
                cases hs : S K with
                | true => simp only [if_true]; omega
                | false => exact absurd ⟨K, by omega, hs⟩ h
            exact this N (Nat.le_refl _)
          omega
        obtain ⟨j, hj, hSj⟩ := hout
        have hq := wd_max (n := N) hwb (q := fun i j => if S i = S j then 0 else far) (fun i _ => by simp) (fun i c hi hc _ => by
            by_cases e : S i = S c
            · simp only [e, if_true]
              exact stp_le (by decide) (fun o ho hj => hwb o ho)
            · simp only [e, if_false]
              refine stp_le (Int.le_refl _) (fun o ho hjo => absurd ?_ hno)
              cases hi' : S i with
              | true =>
                cases hc' : S c with
                | true => exact absurd (hi'.trans hc'.symm) e
                | false => exact ⟨o, ho, i, c, hi, hc, hi', hc', hjo⟩
              | false =>
                cases hc' : S c with
                | false => exact absurd (hi'.trans hc'.symm) e
                | true => exact ⟨o, ho, c, i, hc, hi, hc', hi', joins_iff.2 (by rcases joins_iff.1 hjo with h | h; exact .inr h; exact .inl h)⟩)
          (fun i c j _ _ _ => by
            cases S i <;> cases S c <;> cases S j <;> simp <;> decide) 0 j (by omega) hj
        simp only [h0, hSj] at hq
        have := hall j hj
        simp only [Bool.true_eq_false, if_false] at hq
        omega
      obtain ⟨o, ho, x, y, hx, hy, hSx, hSy, hjo⟩ := hex
      have hW := comps_offS hok hb o ho
      obtain ⟨t', ht', hsub', hcnt', hot', htt'⟩ : ∃ t', t' < 2 ^ m.os.length ∧ (∀ i, t'.testBit i = true → b.testBit i = true) ∧ cntN t'.testBit 12 ≤ cntN t.testBit 12 + 1 ∧ o ∈ comps m (bits 12 t') ∧ ∀ i, t.testBit i = true → t'.testBit i = true := by
        rcases (comps_mem h12 hb).1 ho with h1 | ⟨i, h1, h2⟩
        · exact ⟨t, ht, hsub, by omega, (comps_mem h12 ht).2 (.inl h1), fun i h => h⟩
        · have hi := bit_lt hb h1
          have hbit : ∀ j, (t ||| 1 <<< i).testBit j = true ↔ t.testBit j = true ∨ i = j := fun j => by
            rw [Nat.testBit_or, Nat.one_shiftLeft, Nat.testBit_two_pow]
            simp
          have hlt : (t ||| 1 <<< i) < 2 ^ m.os.length := Nat.or_lt_two_pow ht (by rw [Nat.one_shiftLeft]; exact Nat.pow_lt_pow_right (by decide) hi)
          refine ⟨t ||| 1 <<< i, hlt, fun j hj => ?_, ?_, (comps_mem h12 hlt).2 (.inr ⟨i, (hbit i).2 (.inr rfl), h2⟩), fun j hj => (hbit j).2 (.inl hj)⟩
          · rcases (hbit j).1 hj with h | h
            · exact hsub j h
            · exact h ▸ h1
          · have := cntN_put (p := t.testBit) (q := (t ||| 1 <<< i).testBit) (x := i) (fun j hj => by
              rw [Bool.eq_iff_iff, hbit]
              constructor
              · rintro (h | h)
                · exact h
                · exact absurd h.symm hj
              · exact .inl) 12
            rw [if_pos (by omega)] at this
            exact this
      have hwt' := fun o ho => (comps_offS hok ht' o ho).w0
      refine ⟨fun j => S j || decide (j = y), t', by simp [h0], ?_, ht', hsub', by omega, fun j hj hs => ?_⟩
      · have := cntN_more (p := S) (q := fun j => S j || decide (j = y)) (x := y) hSy (by simp) (fun i h => by simp [h]) N hy
        omega
      · have hmono : ∀ i, i < N → wd N (comps m (bits 12 t')) 0 i ≤ wd N (comps m (bits 12 t)) 0 i := fun i hi => wd_mono hwt hwt' (comps_sub h12 ht ht' htt') 0 i (by omega) hi
        cases hs' : S j with
        | true => exact Int.lt_of_le_of_lt (hmono j hj) (hr j hj hs')
        | false =>
          obtain rfl : j = y := by simpa [hs'] using hs
          have h1 := Int.lt_of_le_of_lt (hmono x hx) (hr x hx hSx)
          have h2 := wd_small (M := 1048576) (by decide) (by decide) hwt' (fun o ho => (comps_offS hok ht' o ho).w1) 0 x (by omega) hx h1
          have h3 := wd_tri hwt' 0 x j (by omega) hx hj
          have h4 := wd_stp hwt' x j hx hj
          have h5 := stp_mem hot' hjo
          have h6 := hW.w1
          have h7 : ((N - 1 : Nat) : Int) * 1048576 ≤ 7 * 1048576 := Int.mul_le_mul_of_nonneg_right (by omega) (by decide)
          show wd N (comps m (bits 12 t')) 0 j < 1099511627776
          omega
end Go.Proofs.Ytjdldmecjhddnaa
