/- Plain mathematics of the reference's fronts: pairs put in one by one. -/
import Derived.Test.YtjdldmecjhddnaaK16
namespace Go.Proofs.Ytjdldmecjhddnaa
set_option linter.unusedVariables false
set_option linter.unusedSimpArgs false

def domB (q p : Int × Int) : Bool := decide (q.1 ≤ p.1) && decide (q.2 ≤ p.2)
theorem domB_iff {q p : Int × Int} : domB q p = true ↔ Dom q p := by unfold domB Dom; simp
def putS (p : Int × Int) (s : List (Int × Int) × Bool) (q : Int × Int) : List (Int × Int) × Bool :=
  if domB p q = true then s else if s.2 = false ∧ p.1 < q.1 then (s.1 ++ [p] ++ [q], true) else (s.1 ++ [q], s.2)
def putE (p : Int × Int) (s : List (Int × Int) × Bool) : List (Int × Int) := if s.2 = true then s.1 else s.1 ++ [p]
/-- A front with a pair put in. -/
def putF (l : List (Int × Int)) (p : Int × Int) : List (Int × Int) := if (l.any fun q => domB q p) = true then l else putE p (l.foldl (putS p) ([], false))
def putR (p : Int × Int) : Bool → List (Int × Int) → List (Int × Int)
  | d, [] => if d then [] else [p]
  | d, q :: l => if domB p q = true then putR p d l else if d = false ∧ p.1 < q.1 then p :: q :: putR p true l else q :: putR p d l
theorem put_fold (p : Int × Int) : ∀ (l acc : List (Int × Int)) (d : Bool), putE p (l.foldl (putS p) (acc, d)) = acc ++ putR p d l
  | [], acc, d => by cases d <;> simp [putE, putR]
  | q :: l, acc, d => by
    rw [List.foldl_cons, putS, putR]
    by_cases h1 : domB p q = true
    · rw [if_pos h1, if_pos h1]; exact put_fold p l acc d
    · rw [if_neg h1, if_neg h1]
      by_cases h2 : d = false ∧ p.1 < q.1
      · rw [if_pos h2, if_pos h2, put_fold p l _ true]; simp
      · rw [if_neg h2, if_neg h2, put_fold p l _ d]; simp
theorem putR_true (p : Int × Int) : ∀ l, putR p true l = l.filter fun q => !domB p q
  | [] => rfl
  | q :: l => by
    rw [putR, putR_true p l]
    by_cases h1 : domB p q = true
    · rw [if_pos h1, List.filter_cons_of_neg (by simp [h1])]
    · rw [if_neg h1, if_neg (by simp), List.filter_cons_of_pos (by simpa using h1)]
theorem putR_mem (p : Int × Int) : ∀ l x, x ∈ putR p false l ↔ x = p ∨ (x ∈ l ∧ domB p x = false)
  | [], x => by simp [putR]
  | q :: l, x => by
    rw [putR]
    have ih := putR_mem p l x
    by_cases h1 : domB p q = true
    · rw [if_pos h1, ih]
      constructor
      · rintro (h | ⟨h, h2⟩)
        · exact .inl h
        · exact .inr ⟨List.mem_cons_of_mem _ h, h2⟩
      · rintro (h | ⟨h, h2⟩)
        · exact .inl h
        · rcases List.mem_cons.1 h with rfl | h
          · rw [h1] at h2; cases h2
          · exact .inr ⟨h, h2⟩
    · have h1' : domB p q = false := by cases e : domB p q with | false => rfl | true => exact absurd e h1
      rw [if_neg h1]
      by_cases h2 : (false = false ∧ p.1 < q.1)
      · rw [if_pos h2, putR_true]
        simp only [List.mem_cons, List.mem_filter, Bool.not_eq_true']
        constructor
        · rintro (h | rfl | ⟨h, h3⟩)
          · exact .inl h
          · exact .inr ⟨.inl rfl, h1'⟩
          · exact .inr ⟨.inr h, h3⟩
        · rintro (h | ⟨rfl | h, h3⟩)
          · exact .inl h
          · exact .inr (.inl rfl)
          · exact .inr (.inr ⟨h, h3⟩)
      · rw [if_neg h2, List.mem_cons, ih, List.mem_cons]
        constructor
        · rintro (rfl | h | ⟨h, h3⟩)
          · exact .inr ⟨.inl rfl, h1'⟩
          · exact .inl h
          · exact .inr ⟨.inr h, h3⟩
        · rintro (h | ⟨rfl | h, h3⟩)
          · exact .inr (.inl h)
          · exact .inl rfl
          · exact .inr (.inr ⟨h, h3⟩)
theorem putR_falls (p : Int × Int) : ∀ l, Falls l → (∀ q ∈ l, ¬ Dom q p) → Falls (putR p false l)
  | [], _, _ => by simp [putR, Falls]
  | q :: l, hF, hno => by
    obtain ⟨hq, hl⟩ := List.pairwise_cons.1 hF
    rw [putR]
    by_cases h1 : domB p q = true
    · rw [if_pos h1]; exact putR_falls p l hl (fun x hx => hno x (List.mem_cons_of_mem _ hx))
    · have h1' : ¬ (p.1 ≤ q.1 ∧ p.2 ≤ q.2) := fun h => h1 (domB_iff.2 h)
      rw [if_neg h1]
      by_cases h2 : (false = false ∧ p.1 < q.1)
      · rw [if_pos h2, putR_true]
        have h3 := h2.2
        refine List.pairwise_cons.2 ⟨fun x hx => ?_, List.pairwise_cons.2 ⟨fun x hx => hq x (List.mem_filter.1 hx).1, hl.filter _⟩⟩
        rcases List.mem_cons.1 hx with rfl | hx
        · exact ⟨h3, by omega⟩
        · have := hq x (List.mem_filter.1 hx).1
          omega
      · rw [if_neg h2]
        have h3 : ¬ p.1 < q.1 := fun h => h2 ⟨rfl, h⟩
        have h4 : ¬ (q.1 ≤ p.1 ∧ q.2 ≤ p.2) := hno q (by simp)
        refine List.pairwise_cons.2 ⟨fun x hx => ?_, putR_falls p l hl (fun x hx => hno x (List.mem_cons_of_mem _ hx))⟩
        rcases (putR_mem p l x).1 hx with rfl | ⟨hx, _⟩
        · omega
        · exact hq x hx
theorem put_front {L F : List (Int × Int)} (h : Front L F) (p : Int × Int) : Front (L ++ [p]) (putF F p) := by
  unfold putF
  by_cases ha : (F.any fun q => domB q p) = true
  · rw [if_pos ha]
    obtain ⟨q, hq, hd⟩ := List.any_eq_true.1 ha
    refine ⟨h.falls, fun x hx => List.mem_append_left _ (h.mem x hx), fun x hx => ?_⟩
    rcases List.mem_append.1 hx with hx | hx
    · exact h.dom x hx
    · obtain rfl : x = p := by simpa using hx
      exact ⟨q, hq, domB_iff.1 hd⟩
  · rw [if_neg ha, put_fold, List.nil_append]
    have hno : ∀ q ∈ F, ¬ Dom q p := fun q hq hd => ha (List.any_eq_true.2 ⟨q, hq, domB_iff.2 hd⟩)
    refine ⟨putR_falls p F h.falls hno, fun x hx => ?_, fun x hx => ?_⟩
    · rcases (putR_mem p F x).1 hx with rfl | ⟨hx, _⟩
      · exact List.mem_append_right _ (by simp)
      · exact List.mem_append_left _ (h.mem x hx)
    · rcases List.mem_append.1 hx with hx | hx
      · obtain ⟨q, hq, hd⟩ := h.dom x hx
        cases e : domB p q with
        | false => exact ⟨q, (putR_mem p F q).2 (.inr ⟨hq, e⟩), hd⟩
        | true =>
          have h1 := domB_iff.1 e
          unfold Dom at h1 hd
          exact ⟨p, (putR_mem p F p).2 (.inl rfl), show p.1 ≤ x.1 ∧ p.2 ≤ x.2 from ⟨by omega, by omega⟩⟩
      · obtain rfl : x = p := by simpa using hx
        exact ⟨x, (putR_mem x F x).2 (.inl rfl), Int.le_refl _, Int.le_refl _⟩
/-- The pairs of the sets below k, put in one by one. -/
def putN (m : Mk) (a b : Nat) : Nat → List (Int × Int)
  | 0 => []
  | k + 1 => if wd m.n.toNat (comps m (bits 12 k)) a b < 1099511627776 then putF (putN m a b k) (costL m.os (bits 12 k), wd m.n.toNat (comps m (bits 12 k)) a b) else putN m a b k
theorem putN_front (m : Mk) (a b : Nat) : ∀ k, Front (prS m a b k) (putN m a b k)
  | 0 => ⟨List.Pairwise.nil, fun x hx => by simp [putN] at hx, fun x hx => by simp [prS] at hx⟩
  | k + 1 => by
    unfold putN
    by_cases h : wd m.n.toNat (comps m (bits 12 k)) a b < 1099511627776
    · rw [if_pos h, prS_yes h]; exact put_front (putN_front m a b k) _
    · rw [if_neg h, prS_no h]; exact putN_front m a b k
theorem putN_fronts (m : Mk) (a b : Nat) : putN m a b (2 ^ m.os.length) = frontsF m a b := frontP_is (putN_front m a b _)
theorem putN_len (m : Mk) (a b k : Nat) : (putN m a b k).length ≤ k := by
  have h := frontP_is (putN_front m a b k)
  rw [h]
  exact Nat.le_trans (frontP_len _) (prS_len m a b k)
theorem fold_take {α β : Type} {f : β → α → β} {l : List α} {k : Nat} {x : α} {s : β} (h : l[k]? = some x) : (l.take (k + 1)).foldl f s = f ((l.take k).foldl f s) x := by
  rw [take_snoc h, List.foldl_append]; rfl
theorem putS_len (p : Int × Int) : ∀ (l acc : List (Int × Int)) (d : Bool), (l.foldl (putS p) (acc, d)).1.length ≤ acc.length + l.length + 1 ∧ (d = true → (l.foldl (putS p) (acc, d)).1.length ≤ acc.length + l.length)
  | [], acc, d => ⟨by simp, fun _ => by simp⟩
  | q :: l, acc, d => by
    rw [List.foldl_cons, putS]
    by_cases h1 : domB p q = true
    · rw [if_pos h1]
      obtain ⟨a1, a2⟩ := putS_len p l acc d
      exact ⟨by simp only [List.length_cons]; omega, fun h => by have := a2 h; simp only [List.length_cons]; omega⟩
    · rw [if_neg h1]
      by_cases h2 : d = false ∧ p.1 < q.1
      · rw [if_pos h2]
        obtain ⟨a1, a2⟩ := putS_len p l (acc ++ [p] ++ [q]) true
        have a3 := a2 rfl
        simp only [List.length_append, List.length_cons, List.length_nil] at a3 ⊢
        exact ⟨by omega, fun h => by rw [h2.1] at h; cases h⟩
      · rw [if_neg h2]
        obtain ⟨a1, a2⟩ := putS_len p l (acc ++ [q]) d
        simp only [List.length_append, List.length_cons, List.length_nil] at a1 a2 ⊢
        exact ⟨by omega, fun h => by have := a2 h; omega⟩
end Go.Proofs.Ytjdldmecjhddnaa
