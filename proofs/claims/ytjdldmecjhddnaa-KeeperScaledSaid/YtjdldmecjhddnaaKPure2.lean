/- Plain definitions: comparisons of lists, the order of choices, the least choice. No program in sight. -/
import Derived.Test.YtjdldmecjhddnaaKPure
namespace Go.Proofs.Ytjdldmecjhddnaa
set_option linter.unusedVariables false
set_option linter.unusedSimpArgs false

def cmpI (x y : Int) : Int := if x < y then -1 else if y < x then 1 else 0
def cmpL : List Int → List Int → Int
  | [], [] => 0
  | [], _ :: _ => -1
  | _ :: _, [] => 1
  | x :: r, y :: s => if cmpI x y = 0 then cmpL r s else cmpI x y
def orL : List Int → Int
  | [] => 0
  | x :: r => if x = 0 then orL r else x
theorem orL_at {xs : List Int} {k : Nat} {x : Int} (h : xs[k]? = some x) : orL (xs.drop k) = if x = 0 then orL (xs.drop (k + 1)) else x := by
  have hi : k < xs.length := by
    rcases Nat.lt_or_ge k xs.length with h' | h'
    · exact h'
    · rw [List.getElem?_eq_none h'] at h; cases h
  have e1 : xs[k] = x := by rw [List.getElem?_eq_getElem hi] at h; exact Option.some.inj h
  rw [List.drop_eq_getElem_cons hi, e1, orL]
theorem cmpL_drop {xs ys : List Int} {i : Nat} {x y : Int} (hx : xs[i]? = some x) (hy : ys[i]? = some y) (h : cmpI x y = 0) : cmpL (xs.drop i) (ys.drop i) = cmpL (xs.drop (i + 1)) (ys.drop (i + 1)) := by
  have hi : i < xs.length := by rcases Nat.lt_or_ge i xs.length with h' | h'; exact h'; rw [List.getElem?_eq_none h'] at hx; cases hx
  have hj : i < ys.length := by rcases Nat.lt_or_ge i ys.length with h' | h'; exact h'; rw [List.getElem?_eq_none h'] at hy; cases hy
  rw [List.drop_eq_getElem_cons hi, List.drop_eq_getElem_cons hj]
  have e1 : xs[i] = x := by rw [List.getElem?_eq_getElem hi] at hx; exact Option.some.inj hx
  have e2 : ys[i] = y := by rw [List.getElem?_eq_getElem hj] at hy; exact Option.some.inj hy
  rw [e1, e2, cmpL, if_pos h]
theorem cmpL_stop {xs ys : List Int} {i : Nat} {x y : Int} (hx : xs[i]? = some x) (hy : ys[i]? = some y) (h : cmpI x y ≠ 0) : cmpL (xs.drop i) (ys.drop i) = cmpI x y := by
  have hi : i < xs.length := by rcases Nat.lt_or_ge i xs.length with h' | h'; exact h'; rw [List.getElem?_eq_none h'] at hx; cases hx
  have hj : i < ys.length := by rcases Nat.lt_or_ge i ys.length with h' | h'; exact h'; rw [List.getElem?_eq_none h'] at hy; cases hy
  rw [List.drop_eq_getElem_cons hi, List.drop_eq_getElem_cons hj]
  have e1 : xs[i] = x := by rw [List.getElem?_eq_getElem hi] at hx; exact Option.some.inj hx
  have e2 : ys[i] = y := by rw [List.getElem?_eq_getElem hj] at hy; exact Option.some.inj hy
  rw [e1, e2, cmpL, if_neg h]
theorem cmpL_long {xs ys : List Int} {i : Nat} (hi : i < xs.length) (hj : ys.length ≤ i) : cmpL (xs.drop i) (ys.drop i) = 1 := by
  rw [List.drop_eq_getElem_cons hi, List.drop_eq_nil_of_le hj, cmpL]
theorem cmpL_end {xs ys : List Int} {i : Nat} (hi : xs.length ≤ i) : cmpL (xs.drop i) (ys.drop i) = if i < ys.length then -1 else 0 := by
  rw [List.drop_eq_nil_of_le hi]
  split
  · rename_i h; rw [List.drop_eq_getElem_cons h, cmpL]
  · rw [List.drop_eq_nil_of_le (by omega), cmpL]
theorem cmpI_lt {x y : Int} (h : x < y) : cmpI x y = -1 := by simp [cmpI, h]
theorem cmpI_gt {x y : Int} (h : y < x) : cmpI x y = 1 := by unfold cmpI; rw [if_neg (by omega), if_pos h]
theorem cmpI_eq (x : Int) : cmpI x x = 0 := by simp [cmpI]
theorem cmpI_bd (x y : Int) : -1 ≤ cmpI x y ∧ cmpI x y ≤ 1 := by unfold cmpI; split <;> (try split) <;> omega
theorem cmpL_bd : ∀ xs ys : List Int, -1 ≤ cmpL xs ys ∧ cmpL xs ys ≤ 1
  | [], [] => by simp [cmpL]
  | [], _ :: _ => by simp [cmpL]
  | _ :: _, [] => by simp [cmpL]
  | x :: r, y :: s => by
    unfold cmpL
    split
    · exact cmpL_bd r s
    · exact cmpI_bd x y

/-! ### Choices: a cost and a set -/
/-- The first choice comes before the second one: by cost, by number, by their lists. -/
def bef (c : Int) (s : Nat) (d : Int) (t : Nat) : Bool := decide (orL [cmpI c d, cmpI (bits 12 s).length (bits 12 t).length, cmpL (bits 12 s) (bits 12 t)] < 0)
/-- The least of the sets below k that do what is wanted. -/
def leastN (os : List Off) (p : Nat → Bool) : Nat → Option Nat
  | 0 => none
  | k + 1 => match leastN os p k with
    | none => if p k then some k else none
    | some b => if bef (costL os (bits 12 k)) k (costL os (bits 12 b)) b && p k then some k else some b
def leastS (os : List Off) (p : Nat → Bool) : Option Nat := leastN os p (2 ^ os.length)
theorem leastN_lt (os : List Off) (p : Nat → Bool) : ∀ k b, leastN os p k = some b → b < k ∧ p b = true
  | 0, b, h => by simp [leastN] at h
  | k + 1, b, h => by
    unfold leastN at h
    cases e : leastN os p k with
    | none =>
      rw [e] at h
      simp only at h
      split at h
      · cases h; exact ⟨by omega, by assumption⟩
      · cases h
    | some c =>
      rw [e] at h
      simp only at h
      have := leastN_lt os p k c e
      split at h
      · rename_i h2
        cases h
        exact ⟨by omega, (Bool.and_eq_true _ _ ▸ h2).2⟩
      · cases h; exact ⟨by omega, this.2⟩
theorem leastN_none_yes {os : List Off} {p : Nat → Bool} {k : Nat} (h : none = leastN os p k) (hp : p k = true) : leastN os p (k + 1) = some k := by
  unfold leastN; rw [← h]; simp [hp]
theorem leastN_none_no {os : List Off} {p : Nat → Bool} {k : Nat} (h : none = leastN os p k) (hp : p k = false) : leastN os p (k + 1) = none := by
  unfold leastN; rw [← h]; simp [hp]
theorem leastN_some_yes {os : List Off} {p : Nat → Bool} {k b : Nat} (h : some b = leastN os p k) (hb : bef (costL os (bits 12 k)) k (costL os (bits 12 b)) b = true) (hp : p k = true) : leastN os p (k + 1) = some k := by
  unfold leastN; rw [← h]; simp [hp, hb]
theorem leastN_some_no {os : List Off} {p : Nat → Bool} {k b : Nat} (h : some b = leastN os p k) (hb : (bef (costL os (bits 12 k)) k (costL os (bits 12 b)) b && p k) = false) : leastN os p (k + 1) = some b := by
  unfold leastN; rw [← h]; simp only [hb]; simp
end Go.Proofs.Ytjdldmecjhddnaa
