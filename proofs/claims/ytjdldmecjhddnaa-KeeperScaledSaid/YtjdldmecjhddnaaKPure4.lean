/- Plain definitions: what comparisons show, and what is known by it. No program in sight. -/
import Derived.RowKit
import Derived.Test.YtjdldmecjhddnaaKPure3
namespace Go.Proofs.Ytjdldmecjhddnaa
open Go.RowKit
set_option linter.unusedVariables false
set_option linter.unusedSimpArgs false

def kt0 : Nat → Nat → Int := fun i j => if i = j then 0 else 1099511627776
def mn (a b : Int) : Int := if b < a then b else a
/-- What one comparison shows: b is at most hi more than a, and a at most -lo more than b. -/
def kstep (d : Nat → Nat → Int) (p : Off × (Int × Int)) : Nat → Nat → Int :=
  upd (upd d p.1.B.toNat p.1.A.toNat (mn (d p.1.B.toNat p.1.A.toNat) p.2.2)) p.1.A.toNat p.1.B.toNat (mn (d p.1.A.toNat p.1.B.toNat) (-p.2.1))
def kIn (l : List (Off × (Int × Int))) : Nat → Nat → Int := l.foldl kstep kt0
theorem kIn_snoc {l : List (Off × (Int × Int))} {k : Nat} {p : Off × (Int × Int)} (h : l[k]? = some p) : kIn (l.take (k + 1)) = kstep (kIn (l.take k)) p := by
  rw [take_snoc h]; unfold kIn; rw [List.foldl_append]; rfl
def rlxK (d : Nat → Nat → Int) (c i k : Nat) : Nat → Nat → Int :=
  if d i c < 1099511627776 ∧ d c k < 1099511627776 then upd d i k (mn (d i k) (wrap64 (d i c + d c k))) else d
def rlxKB (d : Nat → Nat → Int) (c i : Nat) : Nat → Nat → Nat → Int
  | 0 => d
  | k + 1 => rlxK (rlxKB d c i k) c i k
def rlxKA (n : Nat) (d : Nat → Nat → Int) (c : Nat) : Nat → Nat → Nat → Int
  | 0 => d
  | k + 1 => rlxKB (rlxKA n d c k) c k n
def kfw (n : Nat) (d : Nat → Nat → Int) : Nat → Nat → Nat → Int
  | 0 => d
  | k + 1 => rlxKA n (kfw n d k) k n
def clash (n : Nat) (d : Nat → Nat → Int) : Bool := (List.range n).any fun c => decide (d c c < 0)
theorem clash_yes {n : Nat} {d : Nat → Nat → Int} {c : Nat} (hc : c < n) (h : d c c < 0) : clash n d = true := by
  unfold clash; rw [List.any_eq_true]; exact ⟨c, List.mem_range.2 hc, decide_eq_true h⟩
theorem clash_no {n : Nat} {d : Nat → Nat → Int} (h : ∀ c, c < n → 0 ≤ d c c) : clash n d = false := by
  cases e : clash n d with
  | false => rfl
  | true =>
    unfold clash at e
    obtain ⟨c, hc, h2⟩ := List.any_eq_true.1 e
    have := h c (List.mem_range.1 hc)
    have := of_decide_eq_true h2
    omega
theorem mn_lt {a b : Int} (h : b < a) : mn a b = b := if_pos h
theorem mn_ge {a b : Int} (h : ¬ b < a) : mn a b = a := if_neg h
theorem zip_at {α β : Type} {l : List α} {r : List β} {k : Nat} {x : α} {y : β} (h1 : l[k]? = some x) (h2 : r[k]? = some y) : (l.zip r)[k]? = some (x, y) := by
  rw [List.getElem?_zip_eq_some]; exact ⟨h1, h2⟩
end Go.Proofs.Ytjdldmecjhddnaa
