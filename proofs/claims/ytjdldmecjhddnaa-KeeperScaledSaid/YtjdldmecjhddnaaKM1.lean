/- Plain mathematics: widths are distances, the greatest ones under the steps. No program in sight. -/
import Derived.Test.YtjdldmecjhddnaaKPure4
namespace Go.Proofs.Ytjdldmecjhddnaa
set_option linter.unusedVariables false
set_option linter.unusedSimpArgs false

theorem mn_cases (a b : Int) : (mn a b = a ∧ a ≤ b) ∨ (mn a b = b ∧ b ≤ a) := by unfold mn; split <;> omega
theorem rlx_at (d : Nat → Nat → Int) (c a b i j : Nat) : rlx d c a b i j = if i = a ∧ j = b then mn (d a b) (d a c + d c b) else d i j := rfl
theorem rlxB_eq (d : Nat → Nat → Int) (c a : Nat) (h0 : d c c = 0) : ∀ k i j, rlxB d c a k i j = if i = a ∧ j < k then mn (d a j) (d a c + d c j) else d i j
  | 0, i, j => by simp [rlxB]
  | k + 1, i, j => by
    have ih := rlxB_eq d c a h0 k
    unfold rlxB
    rw [rlx_at, ih a k, ih a c, ih c k, ih i j]
    rw [if_neg (show ¬ (a = a ∧ k < k) by omega), if_neg (show ¬ (c = a ∧ k < k) by omega)]
    have e : (if a = a ∧ c < k then mn (d a c) (d a c + d c c) else d a c) = d a c := by
      split
      · rw [h0]; unfold mn; split <;> omega
      · rfl
    rw [e]
    by_cases h : i = a ∧ j = k
    · obtain ⟨rfl, rfl⟩ := h
      rw [if_pos ⟨rfl, rfl⟩, if_pos ⟨rfl, by omega⟩]
    · rw [if_neg h]
      by_cases h2 : i = a ∧ j < k
      · rw [if_pos h2, if_pos (by omega)]
      · rw [if_neg h2, if_neg (by omega)]
theorem rlxA_eq (n : Nat) (d : Nat → Nat → Int) (c : Nat) (h0 : d c c = 0) (hc : c < n) : ∀ k i j, j < n → rlxA n d c k i j = if i < k then mn (d i j) (d i c + d c j) else d i j
  | 0, i, j, _ => by simp [rlxA]
  | k + 1, i, j, hj => by
    have ih := rlxA_eq n d c h0 hc k
    have hcc : rlxA n d c k c c = 0 := by
      rw [ih c c hc]
      split
      · rw [h0]; rfl
      · exact h0
    have hcj : ∀ j, j < n → rlxA n d c k c j = d c j := fun j hj => by
      rw [ih c j hj]
      split
      · rw [h0]; unfold mn; split <;> omega
      · rfl
    show rlxB (rlxA n d c k) c k n i j = _
    rw [rlxB_eq _ _ _ hcc, hcj j hj, ih k j hj, ih k c hc, ih i j hj]
    rw [if_neg (show ¬ k < k by omega), if_neg (show ¬ k < k by omega)]
    by_cases h : i = k
    · subst h; rw [if_pos ⟨rfl, hj⟩, if_pos (by omega)]
    · rw [if_neg (by omega)]
      by_cases h2 : i < k
      · rw [if_pos h2, if_pos (by omega)]
      · rw [if_neg h2, if_neg (by omega)]
/-- One round after the other, as a plain function. -/
def fwF (d : Nat → Nat → Int) : Nat → Nat → Nat → Int
  | 0 => d
  | k + 1 => fun i j => mn (fwF d k i j) (fwF d k i k + fwF d k k j)
section
variable {n : Nat} {d : Nat → Nat → Int}
theorem fwF_nn (hnn : ∀ i j, i < n → j < n → 0 ≤ d i j) : ∀ k, k ≤ n → ∀ i j, i < n → j < n → 0 ≤ fwF d k i j
  | 0, _, i, j, hi, hj => hnn i j hi hj
  | k + 1, hk, i, j, hi, hj => by
    have ih := fwF_nn hnn k (by omega)
    have h1 := ih i j hi hj; have h2 := ih i k hi (by omega); have h3 := ih k j (by omega) hj
    show 0 ≤ mn _ _
    unfold mn; split <;> omega
theorem fwF_self (hnn : ∀ i j, i < n → j < n → 0 ≤ d i j) (h0 : ∀ i, i < n → d i i = 0) : ∀ k, k ≤ n → ∀ i, i < n → fwF d k i i = 0
  | 0, _, i, hi => h0 i hi
  | k + 1, hk, i, hi => by
    have ih := fwF_self hnn h0 k (by omega) i hi
    have h2 := fwF_nn hnn k (by omega) i k hi (by omega); have h3 := fwF_nn hnn k (by omega) k i (by omega) hi
    show mn _ _ = 0
    rw [ih]; unfold mn; split <;> omega
theorem fwN_eq (hnn : ∀ i j, i < n → j < n → 0 ≤ d i j) (h0 : ∀ i, i < n → d i i = 0) : ∀ k, k ≤ n → ∀ i j, i < n → j < n → fwN n d k i j = fwF d k i j
  | 0, _, i, j, _, _ => rfl
  | k + 1, hk, i, j, hi, hj => by
    have ih := fwN_eq hnn h0 k (by omega)
    show rlxA n (fwN n d k) k n i j = _
    rw [rlxA_eq n _ k (by rw [ih k k (by omega) (by omega)]; exact fwF_self hnn h0 k (by omega) k (by omega)) (by omega) n i j hj, if_pos hi, ih i j hi hj, ih i k hi (by omega), ih k j (by omega) hj]
    rfl
theorem fwF_symm (hs : ∀ i j, d i j = d j i) : ∀ k i j, fwF d k i j = fwF d k j i
  | 0, i, j => hs i j
  | k + 1, i, j => by
    have ih := fwF_symm hs k
    show mn _ _ = mn _ _
    rw [ih i j, ih i k, ih k j, Int.add_comm]
theorem fwF_le : ∀ k i j, fwF d k i j ≤ d i j
  | 0, i, j => Int.le_refl _
  | k + 1, i, j => by
    have ih := fwF_le k i j
    show mn _ _ ≤ _
    unfold mn; split <;> omega
theorem fwF_tri (hnn : ∀ i j, i < n → j < n → 0 ≤ d i j) (h0 : ∀ i, i < n → d i i = 0) : ∀ k, k ≤ n → ∀ c, c < k → ∀ i j, i < n → j < n → fwF d k i j ≤ fwF d k i c + fwF d k c j
  | 0, _, c, hc, _, _, _, _ => absurd hc (Nat.not_lt_zero _)
  | k + 1, hk, c, hc, i, j, hi, hj => by
    have nn := fwF_nn hnn k (by omega)
    have hkk := fwF_self hnn h0 k (by omega) k (by omega)
    show mn (fwF d k i j) (fwF d k i k + fwF d k k j) ≤ mn (fwF d k i c) (fwF d k i k + fwF d k k c) + mn (fwF d k c j) (fwF d k c k + fwF d k k j)
    have h1 := mn_cases (fwF d k i j) (fwF d k i k + fwF d k k j)
    have h2 := mn_cases (fwF d k i c) (fwF d k i k + fwF d k k c)
    have h3 := mn_cases (fwF d k c j) (fwF d k c k + fwF d k k j)
    by_cases e : c = k
    · subst e; omega
    · have ih := fwF_tri hnn h0 k (by omega) c (by omega)
      have t1 := ih i j hi hj; have t2 := ih i k hi (by omega); have t3 := ih k j (by omega) hj
      have p1 := nn k c (by omega) (by omega); have p2 := nn c k (by omega) (by omega)
      omega
theorem fwF_max {q : Nat → Nat → Int} (hq : ∀ i j, i < n → j < n → q i j ≤ d i j) (ht : ∀ i c j, i < n → c < n → j < n → q i j ≤ q i c + q c j) : ∀ k, k ≤ n → ∀ i j, i < n → j < n → q i j ≤ fwF d k i j
  | 0, _, i, j, hi, hj => hq i j hi hj
  | k + 1, hk, i, j, hi, hj => by
    have ih := fwF_max hq ht k (by omega)
    have h1 := ih i j hi hj; have h2 := ih i k hi (by omega); have h3 := ih k j (by omega) hj
    have h4 := ht i k j hi (by omega) hj
    show _ ≤ mn _ _
    unfold mn; split <;> omega
end
/-! ### Steps -/
abbrev far : Int := 1099511627776
theorem stp_gen (x y : Nat) : ∀ (l : List Off) (acc : Int),
    (let r := l.foldl (fun acc o => if joins o x y then (if o.W < acc then o.W else acc) else acc) acc
     r ≤ acc ∧ (∀ o ∈ l, joins o x y = true → r ≤ o.W) ∧ (r = acc ∨ ∃ o ∈ l, joins o x y = true ∧ o.W = r))
  | [], acc => by simp
  | o :: l, acc => by
    have ih := stp_gen x y l (if joins o x y then (if o.W < acc then o.W else acc) else acc)
    simp only [List.foldl_cons] at ih ⊢
    obtain ⟨h1, h2, h3⟩ := ih
    by_cases hj : joins o x y = true
    · simp only [hj, if_true] at h1 h2 h3 ⊢
      by_cases hw : o.W < acc
      · simp only [hw, if_true] at h1 h2 h3 ⊢
        refine ⟨by omega, fun o' ho' hj' => ?_, ?_⟩
        · rcases List.mem_cons.1 ho' with rfl | h
          · exact h1
          · exact h2 o' h hj'
        · rcases h3 with h3 | ⟨o', h4, h5, h6⟩
          · exact .inr ⟨o, by simp, hj, h3.symm⟩
          · exact .inr ⟨o', by simp [h4], h5, h6⟩
      · simp only [hw, if_false] at h1 h2 h3 ⊢
        refine ⟨h1, fun o' ho' hj' => ?_, ?_⟩
        · rcases List.mem_cons.1 ho' with rfl | h
          · omega
          · exact h2 o' h hj'
        · rcases h3 with h3 | ⟨o', h4, h5, h6⟩
          · exact .inl h3
          · exact .inr ⟨o', by simp [h4], h5, h6⟩
    · simp only [hj, if_false] at h1 h2 h3 ⊢
      refine ⟨h1, fun o' ho' hj' => ?_, ?_⟩
      · rcases List.mem_cons.1 ho' with rfl | h
        · exact absurd hj' hj
        · exact h2 o' h hj'
      · rcases h3 with h3 | ⟨o', h4, h5, h6⟩
        · exact .inl h3
        · exact .inr ⟨o', by simp [h4], h5, h6⟩
theorem stp_far (l : List Off) (x y : Nat) : stp l x y ≤ far := (stp_gen x y l far).1
theorem stp_mem {l : List Off} {o : Off} {x y : Nat} (ho : o ∈ l) (hj : joins o x y = true) : stp l x y ≤ o.W := (stp_gen x y l far).2.1 o ho hj
theorem stp_att (l : List Off) (x y : Nat) : stp l x y = far ∨ ∃ o ∈ l, joins o x y = true ∧ o.W = stp l x y := (stp_gen x y l far).2.2
theorem stp_le {l : List Off} {x y : Nat} {q : Int} (hf : q ≤ far) (h : ∀ o ∈ l, joins o x y = true → q ≤ o.W) : q ≤ stp l x y := by
  rcases stp_att l x y with e | ⟨o, h1, h2, h3⟩
  · rw [e]; exact hf
  · rw [← h3]; exact h o h1 h2
theorem joins_iff {o : Off} {x y : Nat} : joins o x y = true ↔ (o.A = x ∧ o.B = y) ∨ (o.A = y ∧ o.B = x) := by
  unfold joins; simp only [Bool.or_eq_true, Bool.and_eq_true, beq_iff_eq]
/-! ### Widths -/
section
variable {n : Nat} {l : List Off} (hw : ∀ o ∈ l, 0 ≤ o.W)
include hw
theorem stp0_nn (i j : Nat) (hi : i < n) (hj : j < n) : 0 ≤ stp0 l i j := (stp0_bd n l hw i j hi hj).1
theorem wd_eq (i j : Nat) (hi : i < n) (hj : j < n) : wd n l i j = fwF (stp0 l) n i j :=
  fwN_eq (fun i j hi hj => stp0_nn hw i j hi hj) (fun i _ => by simp [stp0]) n (Nat.le_refl _) i j hi hj
theorem wd_nn (i j : Nat) (hi : i < n) (hj : j < n) : 0 ≤ wd n l i j := by
  rw [wd_eq hw i j hi hj]; exact fwF_nn (fun i j hi hj => stp0_nn hw i j hi hj) n (Nat.le_refl _) i j hi hj
theorem wd_self (i : Nat) (hi : i < n) : wd n l i i = 0 := by
  rw [wd_eq hw i i hi hi]; exact fwF_self (fun i j hi hj => stp0_nn hw i j hi hj) (fun i _ => by simp [stp0]) n (Nat.le_refl _) i hi
theorem wd_symm (i j : Nat) (hi : i < n) (hj : j < n) : wd n l i j = wd n l j i := by
  rw [wd_eq hw i j hi hj, wd_eq hw j i hj hi]
  exact fwF_symm (fun i j => by unfold stp0; rw [stp_symm l i j]; by_cases e : i = j <;> simp [e, eq_comm]) n i j
theorem wd_stp0 (i j : Nat) (hi : i < n) (hj : j < n) : wd n l i j ≤ stp0 l i j := by rw [wd_eq hw i j hi hj]; exact fwF_le n i j
theorem wd_far (i j : Nat) (hi : i < n) (hj : j < n) : wd n l i j ≤ far := Int.le_trans (wd_stp0 hw i j hi hj) (stp0_bd n l hw i j hi hj).2
theorem wd_stp (i j : Nat) (hi : i < n) (hj : j < n) : wd n l i j ≤ stp l i j := by
  have := wd_stp0 hw i j hi hj
  by_cases e : i = j
  · subst e; rw [wd_self hw i hi]; exact (stp_bd l hw i i).1
  · unfold stp0 at this; rw [if_neg e] at this; exact this
theorem wd_tri (i c j : Nat) (hi : i < n) (hc : c < n) (hj : j < n) : wd n l i j ≤ wd n l i c + wd n l c j := by
  rw [wd_eq hw i j hi hj, wd_eq hw i c hi hc, wd_eq hw c j hc hj]
  exact fwF_tri (fun i j hi hj => stp0_nn hw i j hi hj) (fun i _ => by simp [stp0]) n (Nat.le_refl _) c hc i j hi hj
/-- No distance under the steps is greater. -/
theorem wd_max {q : Nat → Nat → Int} (h0 : ∀ i, i < n → q i i ≤ 0) (hq : ∀ i j, i < n → j < n → i ≠ j → q i j ≤ stp l i j) (ht : ∀ i c j, i < n → c < n → j < n → q i j ≤ q i c + q c j) (i j : Nat) (hi : i < n) (hj : j < n) : q i j ≤ wd n l i j := by
  rw [wd_eq hw i j hi hj]
  refine fwF_max (fun i j hi hj => ?_) ht n (Nat.le_refl _) i j hi hj
  unfold stp0
  split
  · rename_i e; subst e; exact h0 i hi
  · rename_i e; exact hq i j hi hj e
end
/-- With more comparisons no width becomes greater. -/
theorem wd_mono {n : Nat} {l l' : List Off} (hw : ∀ o ∈ l, 0 ≤ o.W) (hw' : ∀ o ∈ l', 0 ≤ o.W) (hs : ∀ o ∈ l, o ∈ l') (i j : Nat) (hi : i < n) (hj : j < n) : wd n l' i j ≤ wd n l i j := by
  refine wd_max hw (fun i hi => by rw [wd_self hw' i hi]; exact Int.le_refl _) (fun i j hi hj _ => ?_) (fun i c j hi hc hj => wd_tri hw' i c j hi hc hj) i j hi hj
  refine stp_le (wd_far hw' i j hi hj) (fun o ho hj2 => Int.le_trans (wd_stp hw' i j hi hj) (stp_mem (hs o ho) hj2))
end Go.Proofs.Ytjdldmecjhddnaa
