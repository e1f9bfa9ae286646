/- Plain mathematics: widths that are known are small; clocks that exchange their numbers; comparisons that are all made wider. No program in sight. -/
import Derived.Test.YtjdldmecjhddnaaKM2
namespace Go.Proofs.Ytjdldmecjhddnaa
set_option linter.unusedVariables false
set_option linter.unusedSimpArgs false

theorem cnt_lt {p q : Nat → Bool} : ∀ (l : List Nat), (∀ x ∈ l, p x = true → q x = true) → (∃ x ∈ l, p x = false ∧ q x = true) → l.countP p < l.countP q
  | [], _, h => by obtain ⟨x, hx, _⟩ := h; simp at hx
  | y :: r, hpq, h => by
    have hr : r.countP p ≤ r.countP q := List.countP_mono_left (fun x hx => hpq x (by simp [hx]))
    rw [List.countP_cons, List.countP_cons]
    obtain ⟨x, hx, h1, h2⟩ := h
    rcases List.mem_cons.1 hx with e | hx'
    · subst e; rw [h1, h2]; simp only [Bool.false_eq_true, if_false, if_true]; omega
    · have := cnt_lt r (fun x hx => hpq x (by simp [hx])) ⟨x, hx', h1, h2⟩
      have := hpq y (by simp)
      cases e1 : p y <;> cases e2 : q y <;> simp_all <;> omega
/-- A width that is known is at most one comparison for each other clock. -/
theorem wd_small {n : Nat} {l : List Off} {M : Int} (hM : 0 ≤ M) (hMf : M < far) (hw : ∀ o ∈ l, 0 ≤ o.W) (hW : ∀ o ∈ l, o.W ≤ M) (i j : Nat) (hi : i < n) (hj : j < n) (hlt : wd n l i j < far) : wd n l i j ≤ (n - 1 : Nat) * M := by
  have hfar : far = 1099511627776 := rfl
  have key : ∀ k : Nat, k + 1 ≤ (List.range n).countP (fun j => decide (wd n l i j ≤ k * M)) ∨ (∀ j, j < n → wd n l i j < far → wd n l i j ≤ k * M) := by
    intro k
    induction k with
    | zero =>
      left
      have h0 : 0 < (List.range n).countP (fun j => decide (wd n l i j ≤ ((0 : Nat) : Int) * M)) := by
        rw [List.countP_pos_iff]
        exact ⟨i, List.mem_range.2 hi, by rw [wd_self hw i hi]; simp⟩
      omega
    | succ k ih =>
      have e1 : ((k + 1 : Nat) : Int) * M = k * M + M := by rw [Int.natCast_succ, Int.add_mul, Int.one_mul]
      rcases ih with ih | ih
      · by_cases hall : ∀ j, j < n → wd n l i j < far → wd n l i j ≤ k * M
        · right
          intro j hj h
          have := hall j hj h
          omega
        · left
          have hex : ∃ x ∈ List.range n, decide (wd n l i x ≤ k * M) = false ∧ decide (wd n l i x ≤ ((k + 1 : Nat) : Int) * M) = true := by
            refine Classical.byContradiction fun hno => hall fun j hj hlt => Classical.byContradiction fun hgt => ?_
            have hno' : ∀ x, x < n → wd n l i x ≤ k * M ∨ k * M + M < wd n l i x := by
              intro x hx
              refine Classical.byContradiction fun hc => hno ⟨x, List.mem_range.2 hx, ?_, ?_⟩
              · rw [decide_eq_false_iff_not]; omega
              · rw [decide_eq_true_eq, e1]; omega
            have hq : ∀ x y, x < n → y < n → (fun x y => if (wd n l i x ≤ k * M ↔ wd n l i y ≤ k * M) then (0 : Int) else far) x y ≤ wd n l x y := by
              refine wd_max hw (fun x _ => by simp) (fun x y hx hy hne => ?_) (fun x c y hx hc hy => ?_)
              · (try simp only)
                by_cases hc : (wd n l i x ≤ k * M ↔ wd n l i y ≤ k * M)
                · rw [if_pos hc]; exact (stp_bd l hw x y).1
                · rw [if_neg hc]
                  refine stp_le (Int.le_refl _) (fun o ho hjn => ?_)
                  exfalso
                  have h1 := hW o ho
                  have h2 := wd_stp hw x y hx hy
                  have h3 := stp_mem ho hjn
                  have h4 := wd_tri hw i x y hi hx hy
                  have h5 := wd_tri hw i y x hi hy hx
                  have h6 := wd_symm hw x y hx hy
                  have h7 := hno' x hx; have h8 := hno' y hy
                  omega
              · (try simp only)
                by_cases h1 : wd n l i x ≤ k * M <;> by_cases h2 : wd n l i c ≤ k * M <;> by_cases h3 : wd n l i y ≤ k * M <;> simp [h1, h2, h3, far]
            have hii : wd n l i i ≤ k * M := by rw [wd_self hw i hi]; exact Int.mul_nonneg (Int.natCast_nonneg _) hM
            have := hq i j hi hj
            simp only at this
            rw [if_neg (by simp [hii, hgt])] at this
            omega
          have := cnt_lt (p := fun j => decide (wd n l i j ≤ k * M)) (q := fun j => decide (wd n l i j ≤ ((k + 1 : Nat) : Int) * M)) (List.range n) (fun x _ h => by simp only [decide_eq_true_eq] at h ⊢; omega) hex
          omega
      · right
        intro j hj h
        have := ih j hj h
        omega
  rcases key (n - 1) with h | h
  · have hle := List.countP_le_length (p := fun j => decide (wd n l i j ≤ ((n - 1 : Nat) : Int) * M)) (l := List.range n)
    rw [List.length_range] at hle
    have he : (List.range n).countP (fun j => decide (wd n l i j ≤ ((n - 1 : Nat) : Int) * M)) = (List.range n).length := by rw [List.length_range]; omega
    have := List.countP_eq_length.1 he j (List.mem_range.2 hj)
    simpa using this
  · exact h j hj hlt
/-! ### Two clocks exchange their numbers -/
def swN (x y c : Nat) : Nat := if c = x then y else if c = y then x else c
def swI (x y c : Int) : Int := if c = x then y else if c = y then x else c
def swO (x y : Int) (o : Off) : Off := ⟨swI x y o.A, swI x y o.B, o.C, o.W⟩
theorem swN_swN (x y c : Nat) : swN x y (swN x y c) = c := by
  unfold swN
  repeat' split
  all_goals omega
theorem swN_lt {n x y c : Nat} (hx : x < n) (hy : y < n) (hc : c < n) : swN x y c < n := by unfold swN; split <;> (try split) <;> omega
theorem swI_nat (x y c : Nat) : swI x y c = (swN x y c : Nat) := by
  unfold swI swN
  repeat' split
  all_goals omega
theorem swI_swI (x y c : Int) : swI x y (swI x y c) = c := by
  unfold swI
  repeat' split
  all_goals omega
theorem swO_swO (x y : Int) (o : Off) : swO x y (swO x y o) = o := by unfold swO; simp only [swI_swI]
theorem joins_sw {x y : Nat} {o : Off} {i j : Nat} (h : joins o i j = true) : joins (swO x y o) (swN x y i) (swN x y j) = true := by
  rw [joins_iff] at h ⊢
  unfold swO
  rcases h with ⟨h1, h2⟩ | ⟨h1, h2⟩
  · left; rw [h1, h2]; exact ⟨swI_nat x y i, swI_nat x y j⟩
  · right; rw [h1, h2]; exact ⟨swI_nat x y j, swI_nat x y i⟩
theorem wd_sw_le {n x y : Nat} {l : List Off} (hx : x < n) (hy : y < n) (hw : ∀ o ∈ l, 0 ≤ o.W) (i j : Nat) (hi : i < n) (hj : j < n) : wd n (l.map (swO x y)) (swN x y i) (swN x y j) ≤ wd n l i j := by
  have hw' : ∀ o ∈ l.map (swO x y), 0 ≤ o.W := by
    intro o ho
    obtain ⟨o', h1, rfl⟩ := List.mem_map.1 ho
    exact hw o' h1
  refine wd_max hw (q := fun i j => wd n (l.map (swO x y)) (swN x y i) (swN x y j)) (fun i hi => ?_) (fun i j hi hj hne => ?_) (fun i c j hi hc hj => ?_) i j hi hj
  · (try simp only); rw [wd_self hw' _ (swN_lt hx hy hi)]; exact Int.le_refl _
  · exact stp_le (wd_far hw' _ _ (swN_lt hx hy hi) (swN_lt hx hy hj)) (fun o ho hjn => Int.le_trans (wd_stp hw' _ _ (swN_lt hx hy hi) (swN_lt hx hy hj)) (stp_mem (o := swO x y o) (List.mem_map.2 ⟨o, ho, rfl⟩) (joins_sw hjn)))
  · exact wd_tri hw' _ _ _ (swN_lt hx hy hi) (swN_lt hx hy hc) (swN_lt hx hy hj)
theorem wd_sw {n x y : Nat} {l : List Off} (hx : x < n) (hy : y < n) (hw : ∀ o ∈ l, 0 ≤ o.W) (i j : Nat) (hi : i < n) (hj : j < n) : wd n (l.map (swO x y)) (swN x y i) (swN x y j) = wd n l i j := by
  refine Int.le_antisymm (wd_sw_le hx hy hw i j hi hj) ?_
  have hw' : ∀ o ∈ l.map (swO x y), 0 ≤ o.W := by
    intro o ho
    obtain ⟨o', h1, rfl⟩ := List.mem_map.1 ho
    exact hw o' h1
  have := wd_sw_le hx hy hw' (swN x y i) (swN x y j) (swN_lt hx hy hi) (swN_lt hx hy hj)
  rw [swN_swN, swN_swN, List.map_map] at this
  have e : (swO (x : Int) y ∘ swO x y) = id := funext fun o => swO_swO x y o
  rw [e, List.map_id] at this
  exact this
/-! ### All comparisons k times as wide -/
def scO (k : Int) (o : Off) : Off := ⟨o.A, o.B, o.C, o.W * k⟩
theorem joins_sc (k : Int) (o : Off) (i j : Nat) : joins (scO k o) i j = joins o i j := rfl
/-- The least number that is at least x / k. -/
def cdiv (x k : Int) : Int := -((-x) / k)
theorem cdiv_le {x k y : Int} (hk : 0 < k) (h : x ≤ y * k) : cdiv x k ≤ y := by
  unfold cdiv
  have : -y ≤ (-x) / k := (Int.le_ediv_iff_mul_le hk).2 (by rw [Int.neg_mul]; omega)
  omega
theorem le_cdiv {x k : Int} (hk : 0 < k) : x ≤ cdiv x k * k := by
  unfold cdiv
  have h := Int.ediv_mul_le (-x) (show k ≠ 0 by omega)
  rw [Int.neg_mul]; omega
theorem cdiv_add {x y k : Int} (hk : 0 < k) : cdiv (x + y) k ≤ cdiv x k + cdiv y k := by
  refine cdiv_le hk ?_
  rw [Int.add_mul]
  have := le_cdiv (x := x) hk; have := le_cdiv (x := y) hk
  omega
theorem wd_sc {n : Nat} {l : List Off} {k : Int} (hn : n ≤ 8) (hk1 : 1 ≤ k) (hk2 : k ≤ 1000) (hw : ∀ o ∈ l, 0 ≤ o.W) (hW : ∀ o ∈ l, o.W ≤ 1048576) (i j : Nat) (hi : i < n) (hj : j < n) :
    wd n (l.map (scO k)) i j = if wd n l i j < far then wd n l i j * k else far := by
  have hfar : far = 1099511627776 := rfl
  have hw' : ∀ o ∈ l.map (scO k), 0 ≤ o.W := by
    intro o ho
    obtain ⟨o', h1, rfl⟩ := List.mem_map.1 ho
    exact Int.mul_nonneg (hw o' h1) (by omega)
  have hsm : ∀ i j, i < n → j < n → wd n l i j < far → wd n l i j ≤ 7340032 := by
    intro i j hi hj h
    have h1 := wd_small (M := 1048576) (by decide) (by decide) hw hW i j hi hj h
    have h2 : ((n - 1 : Nat) : Int) ≤ 7 := by omega
    have : ((n - 1 : Nat) : Int) * 1048576 ≤ 7 * 1048576 := Int.mul_le_mul_of_nonneg_right h2 (by decide)
    omega
  have hnn := fun i j hi hj => wd_nn hw (n := n) i j hi hj
  have hkk : ∀ z : Int, 0 ≤ z → z ≤ 14680064 → 0 ≤ z * k ∧ z * k ≤ 14680064000 := by
    intro z h0 h1
    refine ⟨Int.mul_nonneg h0 (by omega), ?_⟩
    have h2 : z * k ≤ 14680064 * k := Int.mul_le_mul_of_nonneg_right h1 (by omega)
    omega
  refine Int.le_antisymm ?_ ?_
  · by_cases hf : wd n l i j < far
    · rw [if_pos hf]
      have h1 : ∀ i j, i < n → j < n → (fun i j => if wd n (l.map (scO k)) i j < far then cdiv (wd n (l.map (scO k)) i j) k else far) i j ≤ wd n l i j := by
        have hle : ∀ i j, i < n → j < n → wd n (l.map (scO k)) i j < far → cdiv (wd n (l.map (scO k)) i j) k ≤ wd n (l.map (scO k)) i j := by
          intro i j hi hj _
          refine cdiv_le (by omega) ?_
          have := Int.mul_le_mul_of_nonneg_left (show (1 : Int) ≤ k from hk1) (wd_nn hw' i j hi hj)
          omega
        refine wd_max hw (fun i hi => ?_) (fun i j hi hj hne => ?_) (fun i c j hi hc hj => ?_)
        · (try simp only)
          rw [wd_self hw' i hi, if_pos (by decide)]
          exact cdiv_le (by omega) (by omega)
        · (try simp only)
          refine stp_le ?_ (fun o ho hjn => ?_)
          · split
            · have := hle i j hi hj (by assumption); omega
            · exact Int.le_refl _
          · have h1 := wd_stp hw' i j hi hj
            have h2 := stp_mem (o := scO k o) (List.mem_map.2 ⟨o, ho, rfl⟩) (x := i) (y := j) hjn
            have h3 := hkk o.W (hw o ho) (by have := hW o ho; omega)
            have h4 : (scO k o).W = o.W * k := rfl
            rw [if_pos (show _ < (1099511627776 : Int) by omega)]
            exact cdiv_le (by omega) (by omega)
        · (try simp only)
          have h1 := wd_tri hw' i c j hi hc hj
          have h2 := wd_far hw' i j hi hj
          have n1 := wd_nn hw' i c hi hc; have n2 := wd_nn hw' c j hc hj
          have p : ∀ x : Int, 0 ≤ x → 0 ≤ cdiv x k := by
            intro x hx
            have := le_cdiv (x := x) (k := k) (by omega)
            refine Classical.byContradiction fun hneg => ?_
            have : cdiv x k * k ≤ (-1) * k := Int.mul_le_mul_of_nonneg_right (by omega) (by omega)
            omega
          have p1 := p _ n1; have p2 := p _ n2
          by_cases a1 : wd n (l.map (scO k)) i c < far
          · by_cases a2 : wd n (l.map (scO k)) c j < far
            · rw [if_pos a1, if_pos a2]
              by_cases a3 : wd n (l.map (scO k)) i j < far
              · rw [if_pos a3]
                refine Int.le_trans ?_ (cdiv_add (by omega))
                exact cdiv_le (by omega) (Int.le_trans h1 (le_cdiv (by omega)))
              · -- known by both, so known at all
                exfalso
                have s1 := wd_small (M := 1048576000) (by decide) (by decide) hw' (fun o ho => by
                  obtain ⟨o', h1, rfl⟩ := List.mem_map.1 ho
                  have h3 : o'.W * k ≤ 1048576 * k := Int.mul_le_mul_of_nonneg_right (hW o' h1) (by omega)
                  show o'.W * k ≤ _
                  omega) i c hi hc a1
                have s2 := wd_small (M := 1048576000) (by decide) (by decide) hw' (fun o ho => by
                  obtain ⟨o', h1, rfl⟩ := List.mem_map.1 ho
                  have h3 : o'.W * k ≤ 1048576 * k := Int.mul_le_mul_of_nonneg_right (hW o' h1) (by omega)
                  show o'.W * k ≤ _
                  omega) c j hc hj a2
                have h7 : ((n - 1 : Nat) : Int) ≤ 7 := by omega
                have : ((n - 1 : Nat) : Int) * 1048576000 ≤ 7 * 1048576000 := Int.mul_le_mul_of_nonneg_right h7 (by decide)
                omega
            · rw [if_pos a1, if_neg a2]
              split
              · have := hle i j hi hj (by assumption); omega
              · omega
          · rw [if_neg a1]
            split
            · have := hle i j hi hj (by assumption)
              split <;> omega
            · split <;> omega
      have h2 := h1 i j hi hj
      simp only at h2
      by_cases a : wd n (l.map (scO k)) i j < far
      · rw [if_pos a] at h2
        have h3 := le_cdiv (x := wd n (l.map (scO k)) i j) (k := k) (by omega)
        have h4 := Int.mul_le_mul_of_nonneg_right h2 (show (0 : Int) ≤ k by omega)
        omega
      · rw [if_neg a] at h2; omega
    · rw [if_neg hf]; exact wd_far hw' i j hi hj
  · have h1 : ∀ i j, i < n → j < n → (fun i j => if wd n l i j < far then wd n l i j * k else far) i j ≤ wd n (l.map (scO k)) i j := by
      refine wd_max hw' (fun i hi => ?_) (fun i j hi hj hne => ?_) (fun i c j hi hc hj => ?_)
      · (try simp only)
        rw [wd_self hw i hi, if_pos (by decide)]; omega
      · (try simp only)
        refine stp_le ?_ (fun o ho hjn => ?_)
        · split
          · have := hkk _ (hnn i j hi hj) (by have := hsm i j hi hj (by assumption); omega); omega
          · exact Int.le_refl _
        · obtain ⟨o', h1, rfl⟩ := List.mem_map.1 ho
          have h2 := wd_stp hw i j hi hj
          have h3 := stp_mem h1 (x := i) (y := j) hjn
          have h4 := hW o' h1
          rw [if_pos (by omega)]
          show _ ≤ o'.W * k
          exact Int.mul_le_mul_of_nonneg_right (by omega) (by omega)
      · (try simp only)
        have h1 := wd_tri hw i c j hi hc hj
        have n1 := hnn i c hi hc; have n2 := hnn c j hc hj; have n3 := hnn i j hi hj
        by_cases a1 : wd n l i c < far
        · have b1 := hsm i c hi hc a1
          have c1 := hkk _ n1 (by omega)
          by_cases a2 : wd n l c j < far
          · have b2 := hsm c j hc hj a2
            rw [if_pos a1, if_pos a2, if_pos (by omega), ← Int.add_mul]
            exact Int.mul_le_mul_of_nonneg_right h1 (by omega)
          · rw [if_pos a1, if_neg a2]
            split
            · have := hkk _ n3 (by have := hsm i j hi hj (by assumption); omega); omega
            · omega
        · rw [if_neg a1]
          have c2 : 0 ≤ (if wd n l c j < far then wd n l c j * k else far) := by
            split
            · exact Int.mul_nonneg n2 (by omega)
            · decide
          split
          · have := hkk _ n3 (by have := hsm i j hi hj (by assumption); omega); omega
          · omega
    exact h1 i j hi hj
end Go.Proofs.Ytjdldmecjhddnaa
