/- Plain mathematics: the least choice is least. No program in sight. -/
import Derived.Test.YtjdldmecjhddnaaKM1
namespace Go.Proofs.Ytjdldmecjhddnaa
set_option linter.unusedVariables false
set_option linter.unusedSimpArgs false

theorem cmpI_neg (x y : Int) : cmpI y x = - cmpI x y := by unfold cmpI; split <;> split <;> (try split) <;> omega
theorem cmpI_zero {x y : Int} : cmpI x y = 0 ↔ x = y := by unfold cmpI; split <;> (try split) <;> omega
theorem cmpI_lt_iff {x y : Int} : cmpI x y < 0 ↔ x < y := by unfold cmpI; split <;> (try split) <;> omega
theorem cmpL_neg : ∀ xs ys : List Int, cmpL ys xs = - cmpL xs ys
  | [], [] => rfl
  | [], _ :: _ => rfl
  | _ :: _, [] => rfl
  | x :: r, y :: s => by
    unfold cmpL
    have h1 := cmpI_neg x y
    by_cases e : cmpI x y = 0
    · rw [if_pos (by omega), if_pos e]; exact cmpL_neg r s
    · rw [if_neg (by omega), if_neg e]; exact h1
theorem cmpL_zero : ∀ {xs ys : List Int}, cmpL xs ys = 0 ↔ xs = ys
  | [], [] => by simp [cmpL]
  | [], _ :: _ => by simp [cmpL]
  | _ :: _, [] => by simp [cmpL]
  | x :: r, y :: s => by
    unfold cmpL
    by_cases e : cmpI x y = 0
    · rw [if_pos e, cmpL_zero]
      have := cmpI_zero.1 e
      subst this
      simp
    · rw [if_neg e]
      constructor
      · intro h; exact absurd h e
      · intro h; injection h with h1 _; exact absurd (cmpI_zero.2 h1) e
theorem cmpL_trans : ∀ {xs ys zs : List Int}, cmpL xs ys < 0 → cmpL ys zs < 0 → cmpL xs zs < 0
  | [], [], _, h, _ => by simp [cmpL] at h
  | _ :: _, [], _, h, _ => by simp [cmpL] at h
  | _, _ :: _, [], _, h => by simp [cmpL] at h
  | [], _ :: _, _ :: _, _, _ => by simp [cmpL]
  | x :: r, y :: s, z :: t, h1, h2 => by
    unfold cmpL at *
    by_cases e1 : cmpI x y = 0
    · rw [if_pos e1] at h1
      obtain rfl := cmpI_zero.1 e1
      by_cases e2 : cmpI x z = 0
      · rw [if_pos e2] at h2 ⊢
        exact cmpL_trans h1 h2
      · rw [if_neg e2] at h2 ⊢; exact h2
    · rw [if_neg e1] at h1
      have p1 := cmpI_lt_iff.1 h1
      by_cases e2 : cmpI y z = 0
      · obtain rfl := cmpI_zero.1 e2
        rw [if_neg e1]; exact h1
      · rw [if_neg e2] at h2
        have p2 := cmpI_lt_iff.1 h2
        have : cmpI x z < 0 := cmpI_lt_iff.2 (by omega)
        rw [if_neg (by omega)]; exact this
/-- The order of choices: by cost, by number, by list. -/
def Bf (c : Int) (xs : List Int) (d : Int) (ys : List Int) : Prop := c < d ∨ (c = d ∧ (xs.length < ys.length ∨ (xs.length = ys.length ∧ cmpL xs ys < 0)))
theorem bef_iff {c d : Int} {s t : Nat} : bef c s d t = true ↔ Bf c (bits 12 s) d (bits 12 t) := by
  unfold bef Bf
  rw [decide_eq_true_eq]
  simp only [orL]
  have h1 := @cmpI_zero c d; have h2 := @cmpI_lt_iff c d
  have h3 := @cmpI_zero ((bits 12 s).length : Int) ((bits 12 t).length : Int); have h4 := @cmpI_lt_iff ((bits 12 s).length : Int) ((bits 12 t).length : Int)
  by_cases e1 : cmpI c d = 0
  · rw [if_pos e1]
    by_cases e2 : cmpI ((bits 12 s).length : Int) ((bits 12 t).length : Int) = 0
    · rw [if_pos e2]
      have := h1.1 e1; have := h3.1 e2
      by_cases e3 : cmpL (bits 12 s) (bits 12 t) = 0
      · rw [if_pos e3]; omega
      · rw [if_neg e3]; omega
    · rw [if_neg e2]; omega
  · rw [if_neg e1]; omega
theorem Bf.irr {c : Int} {xs : List Int} : ¬ Bf c xs c xs := by
  have := (cmpL_zero (xs := xs) (ys := xs)).2 rfl
  unfold Bf; omega
theorem Bf.trans {c d e : Int} {xs ys zs : List Int} (h1 : Bf c xs d ys) (h2 : Bf d ys e zs) : Bf c xs e zs := by
  have := @cmpL_trans xs ys zs
  unfold Bf at *
  omega
theorem Bf.tri {c d : Int} {xs ys : List Int} (h1 : ¬ Bf c xs d ys) (h2 : ¬ Bf d ys c xs) : c = d ∧ xs = ys := by
  have e := cmpL_neg xs ys
  have e2 := @cmpL_zero xs ys
  unfold Bf at *
  refine ⟨by omega, e2.1 (by omega)⟩
theorem Bf.le {c d : Int} {xs ys : List Int} (h1 : ¬ Bf c xs d ys) : d ≤ c := by unfold Bf at h1; omega
theorem bits_inj {s t : Nat} (hs : s < 4096) (ht : t < 4096) (h : bits 12 s = bits 12 t) : s = t := by
  refine Nat.eq_of_testBit_eq (fun i => ?_)
  by_cases hi : i < 12
  · have h1 : ((i : Int) ∈ bits 12 s ↔ (i : Int) ∈ bits 12 t) := by rw [h]
    rw [mem_bits, mem_bits] at h1
    simp only [Int.toNat_natCast] at h1
    have h2 : s.testBit i = true ↔ t.testBit i = true :=
      ⟨fun x => (h1.1 ⟨by omega, by omega, x⟩).2.2, fun x => (h1.2 ⟨by omega, by omega, x⟩).2.2⟩
    cases e1 : s.testBit i <;> cases e2 : t.testBit i <;> simp_all
  · rw [Nat.testBit_lt_two_pow (Nat.lt_of_lt_of_le hs (Nat.pow_le_pow_right (n := 2) (by decide) (show 12 ≤ i by omega))), Nat.testBit_lt_two_pow (Nat.lt_of_lt_of_le ht (Nat.pow_le_pow_right (n := 2) (by decide) (show 12 ≤ i by omega)))]
abbrev costS (os : List Off) (s : Nat) : Int := costL os (bits 12 s)
/-- s comes before t. -/
def BfS (os : List Off) (s t : Nat) : Prop := Bf (costS os s) (bits 12 s) (costS os t) (bits 12 t)
theorem leastN_spec (os : List Off) (p : Nat → Bool) : ∀ k,
    (leastN os p k = none → ∀ s, s < k → p s = false) ∧ (∀ b, leastN os p k = some b → p b = true ∧ b < k ∧ ∀ s, s < k → p s = true → ¬ BfS os s b)
  | 0 => by simp [leastN]
  | k + 1 => by
    obtain ⟨h1, h2⟩ := leastN_spec os p k
    unfold leastN
    cases e : leastN os p k with
    | none =>
      have h1 := h1 e
      simp only
      cases hp : p k with
      | false =>
        simp only [Bool.false_eq_true, if_false]
        refine ⟨fun _ s hs => ?_, fun b hb => (by cases hb)⟩
        rcases Nat.lt_or_ge s k with h | h
        · exact h1 s h
        · obtain rfl : s = k := by omega
          exact hp
      | true =>
        simp only [if_true]
        refine ⟨fun h => (by cases h), fun b hb => ?_⟩
        cases hb
        refine ⟨hp, by omega, fun s hs hps => ?_⟩
        rcases Nat.lt_or_ge s k with h | h
        · rw [h1 s h] at hps; cases hps
        · obtain rfl : s = k := by omega
          exact Bf.irr
    | some b =>
      obtain ⟨hb1, hb2, hb3⟩ := h2 b e
      simp only
      cases hc : (bef (costL os (bits 12 k)) k (costL os (bits 12 b)) b && p k) with
      | false =>
        simp only [Bool.false_eq_true, if_false]
        refine ⟨fun h => (by cases h), fun b' hb' => ?_⟩
        cases hb'
        refine ⟨hb1, by omega, fun s hs hps => ?_⟩
        rcases Nat.lt_or_ge s k with h | h
        · exact hb3 s h hps
        · obtain rfl : s = k := by omega
          rw [hps, Bool.and_true] at hc
          intro hbf
          rw [bef_iff.2 hbf] at hc; cases hc
      | true =>
        simp only [if_true]
        rw [Bool.and_eq_true] at hc
        have hbf := bef_iff.1 hc.1
        refine ⟨fun h => (by cases h), fun b' hb' => ?_⟩
        cases hb'
        refine ⟨hc.2, by omega, fun s hs hps hlt => ?_⟩
        rcases Nat.lt_or_ge s k with h | h
        · exact hb3 s h hps (Bf.trans hlt hbf)
        · obtain rfl : s = k := by omega
          exact Bf.irr hlt
theorem leastS_none {os : List Off} {p : Nat → Bool} (h : leastS os p = none) : ∀ s, s < 2 ^ os.length → p s = false := (leastN_spec os p _).1 h
theorem leastS_some {os : List Off} {p : Nat → Bool} {b : Nat} (h : leastS os p = some b) : p b = true ∧ b < 2 ^ os.length ∧ ∀ s, s < 2 ^ os.length → p s = true → ¬ BfS os s b := (leastN_spec os p _).2 b h
/-- What is least, is what the search finds. -/
theorem leastS_is {os : List Off} {p : Nat → Bool} {b : Nat} (h12 : os.length ≤ 12) (hp : p b = true) (hb : b < 2 ^ os.length) (hm : ∀ s, s < 2 ^ os.length → p s = true → ¬ BfS os s b) : leastS os p = some b := by
  have hle : 2 ^ os.length ≤ 4096 := Nat.pow_le_pow_right (n := 2) (by decide) h12
  cases e : leastS os p with
  | none => rw [leastS_none e b hb] at hp; cases hp
  | some c =>
    obtain ⟨h1, h2, h3⟩ := leastS_some e
    have := Bf.tri (hm c h2 h1) (h3 b hb hp)
    rw [bits_inj (by omega) (by omega) this.2]
theorem leastN_congr {os os' : List Off} {p p' : Nat → Bool} : ∀ k, (∀ s, s < k → p s = p' s) → (∀ s t, s < k → t < k → (bef (costS os s) s (costS os t) t = bef (costS os' s) s (costS os' t) t)) → leastN os p k = leastN os' p' k
  | 0, _, _ => rfl
  | k + 1, hp, hb => by
    have ih := leastN_congr (os := os) (os' := os') k (fun s hs => hp s (by omega)) (fun s t hs ht => hb s t (by omega) (by omega))
    have hpk := hp k (by omega)
    unfold leastN
    rw [ih, hpk]
    cases e : leastN os' p' k with
    | none => rfl
    | some b =>
      have := (leastN_lt os' p' k b e).1
      have h2 := hb k b (by omega) (by omega)
      simp only
      rw [show bef (costL os (bits 12 k)) k (costL os (bits 12 b)) b = bef (costL os' (bits 12 k)) k (costL os' (bits 12 b)) b from h2]
end Go.Proofs.Ytjdldmecjhddnaa
