/- Plain mathematics: a front is the one falling list of the pairs that none is better than. No program in sight. -/
import Derived.Test.YtjdldmecjhddnaaKPure5
import Derived.Test.YtjdldmecjhddnaaKM2
namespace Go.Proofs.Ytjdldmecjhddnaa
set_option linter.unusedVariables false
set_option linter.unusedSimpArgs false

/-- At most the cost and at most the width. -/
def Dom (q p : Int × Int) : Prop := q.1 ≤ p.1 ∧ q.2 ≤ p.2
def Falls (F : List (Int × Int)) : Prop := F.Pairwise fun x y => x.1 < y.1 ∧ y.2 < x.2
/-- F is the front of the pairs in L. -/
structure Front (L F : List (Int × Int)) : Prop where
  falls : Falls F
  mem : ∀ q ∈ F, q ∈ L
  dom : ∀ p ∈ L, ∃ q ∈ F, Dom q p
theorem Falls.eq {F : List (Int × Int)} (h : Falls F) {x y : Int × Int} (hx : x ∈ F) (hy : y ∈ F) (hd : Dom x y) : x = y := by
  unfold Dom at hd
  rcases List.getElem_of_mem hx with ⟨i, hi, rfl⟩
  rcases List.getElem_of_mem hy with ⟨j, hj, rfl⟩
  have hp := List.pairwise_iff_getElem.1 h
  rcases Nat.lt_trichotomy i j with e | e | e
  · have := hp i j hi hj e; omega
  · subst e; rfl
  · have := hp j i hj hi e; omega
theorem falls_unique : ∀ {F G : List (Int × Int)}, Falls F → Falls G → (∀ x, x ∈ F ↔ x ∈ G) → F = G
  | [], [], _, _, _ => rfl
  | [], b :: r, _, _, h => absurd ((h b).2 (by simp)) (by simp)
  | a :: l, [], _, _, h => absurd ((h a).1 (by simp)) (by simp)
  | a :: l, b :: r, hl, hr, h => by
    obtain ⟨hl1, hl2⟩ := List.pairwise_cons.1 hl
    obtain ⟨hr1, hr2⟩ := List.pairwise_cons.1 hr
    have hab : a = b := by
      rcases List.mem_cons.1 ((h a).1 (by simp)) with e | e
      · exact e
      · rcases List.mem_cons.1 ((h b).2 (by simp)) with e2 | e2
        · exact e2.symm
        · have := hr1 a e; have := hl1 b e2; omega
    subst hab
    rw [falls_unique hl2 hr2]
    intro x
    constructor
    · intro hx
      rcases List.mem_cons.1 ((h x).1 (by simp [hx])) with e | e
      · subst e; have := hl1 x hx; omega
      · exact e
    · intro hx
      rcases List.mem_cons.1 ((h x).2 (by simp [hx])) with e | e
      · subst e; have := hr1 x hx; omega
      · exact e
theorem Front.unique {L F G : List (Int × Int)} (hF : Front L F) (hG : Front L G) : F = G := by
  have key : ∀ {F G : List (Int × Int)}, Front L F → Front L G → ∀ x ∈ F, x ∈ G := by
    intro F G hF hG x hx
    obtain ⟨y, hy, hd⟩ := hG.dom x (hF.mem x hx)
    obtain ⟨z, hz, hd2⟩ := hF.dom y (hG.mem y hy)
    have e : z = x := hF.falls.eq hz hx ⟨Int.le_trans hd2.1 hd.1, Int.le_trans hd2.2 hd.2⟩
    subst e
    have : y = z := Prod.ext (Int.le_antisymm hd.1 hd2.1) (Int.le_antisymm hd.2 hd2.2)
    rw [← this]; exact hy
  exact falls_unique hF.falls hG.falls (fun x => ⟨key hF hG x, key hG hF x⟩)
theorem Front.congr {L L' F : List (Int × Int)} (h : Front L F) (he : ∀ x, x ∈ L ↔ x ∈ L') : Front L' F :=
  ⟨h.falls, fun q hq => (he q).1 (h.mem q hq), fun p hp => h.dom p ((he p).2 hp)⟩
theorem getLast_getD {F : List (Int × Int)} (h : F.length ≠ 0) : F.getD (F.length - 1) (0, 0) ∈ F ∧ ∀ x ∈ F, Falls F → x = F.getD (F.length - 1) (0, 0) ∨ (F.getD (F.length - 1) (0, 0)).2 < x.2 := by
  have e : F.getD (F.length - 1) (0, 0) = F[F.length - 1] := by rw [List.getD_eq_getElem?_getD, List.getElem?_eq_getElem (by omega)]; rfl
  rw [e]
  refine ⟨List.getElem_mem _, fun x hx hf => ?_⟩
  rcases List.getElem_of_mem hx with ⟨i, hi, rfl⟩
  by_cases e2 : i = F.length - 1
  · subst e2; exact .inl rfl
  · exact .inr (List.pairwise_iff_getElem.1 hf i (F.length - 1) hi (by omega) (by omega)).2
theorem swp_gen : ∀ (L F : List (Int × Int)), L.Pairwise leP → Falls F → (∀ x ∈ F, ∀ y ∈ L, leP x y) →
    (Falls (L.foldl swpS F) ∧ (∀ q ∈ L.foldl swpS F, q ∈ F ∨ q ∈ L) ∧ (∀ p, p ∈ F ∨ p ∈ L → ∃ q ∈ L.foldl swpS F, Dom q p))
  | [], F, _, hF, _ => ⟨hF, fun q h => .inl h, fun p h => by
      rcases h with h | h
      · exact ⟨p, h, Int.le_refl _, Int.le_refl _⟩
      · simp at h⟩
  | p :: L, F, hL, hF, hFL => by
    obtain ⟨hL1, hL2⟩ := List.pairwise_cons.1 hL
    rw [List.foldl_cons]
    by_cases hc : F.length = 0 ∨ p.2 < (F.getD (F.length - 1) (0, 0)).2
    · have e : swpS F p = F ++ [p] := if_pos hc
      rw [e]
      have hlt : ∀ x ∈ F, p.2 < x.2 := by
        intro x hx
        rcases hc with hc | hc
        · have := List.length_eq_zero_iff.1 hc; subst this; simp at hx
        · have hne : F.length ≠ 0 := fun h => by have := List.length_eq_zero_iff.1 h; subst this; simp at hx
          rcases (getLast_getD hne).2 x hx hF with e | e
          · rw [e]; exact hc
          · omega
      have ih := swp_gen L (F ++ [p]) hL2 ?_ ?_
      · obtain ⟨i1, i2, i3⟩ := ih
        refine ⟨i1, fun q hq => ?_, fun q hq => ?_⟩
        · rcases i2 q hq with h | h
          · rcases List.mem_append.1 h with h | h
            · exact .inl h
            · exact .inr (by simp at h; simp [h])
          · exact .inr (by simp [h])
        · refine i3 q ?_
          rcases hq with h | h
          · exact .inl (by simp [h])
          · rcases List.mem_cons.1 h with h | h
            · exact .inl (by simp [h])
            · exact .inr h
      · unfold Falls
        rw [List.pairwise_append]
        refine ⟨hF, by simp, fun x hx y hy => ?_⟩
        obtain rfl : y = p := by simpa using hy
        have h1 := leP_iff.1 (hFL x hx y (by simp))
        have h2 := hlt x hx
        omega
      · intro x hx y hy
        rcases List.mem_append.1 hx with h | h
        · exact hFL x h y (by simp [hy])
        · obtain rfl : x = p := by simpa using h
          exact hL1 y hy
    · have e : swpS F p = F := if_neg hc
      rw [e]
      have hne : F.length ≠ 0 := fun h => hc (.inl h)
      have hge : (F.getD (F.length - 1) (0, 0)).2 ≤ p.2 := by have : ¬ p.2 < (F.getD (F.length - 1) (0, 0)).2 := fun h => hc (.inr h); omega
      have hmem := (getLast_getD hne).1
      have ih := swp_gen L F hL2 hF (fun x hx y hy => hFL x hx y (by simp [hy]))
      obtain ⟨i1, i2, i3⟩ := ih
      refine ⟨i1, fun q hq => ?_, fun q hq => ?_⟩
      · rcases i2 q hq with h | h
        · exact .inl h
        · exact .inr (by simp [h])
      · rcases hq with h | h
        · exact i3 q (.inl h)
        · rcases List.mem_cons.1 h with h | h
          · subst h
            obtain ⟨z, hz, hd⟩ := i3 _ (.inl hmem)
            have h1 := leP_iff.1 (hFL _ hmem q (by simp))
            unfold Dom at hd ⊢
            exact ⟨z, hz, by omega, by omega⟩
          · exact i3 q (.inr h)
theorem swp_front {L : List (Int × Int)} (h : L.Pairwise leP) : Front L (swp L) := by
  obtain ⟨h1, h2, h3⟩ := swp_gen L [] h List.Pairwise.nil (fun x hx => by simp at hx)
  exact ⟨h1, fun q hq => by simpa using h2 q hq, fun p hp => h3 p (.inr hp)⟩
/-- The front of whatever pairs. -/
def frontP (L : List (Int × Int)) : List (Int × Int) := swp (sortP L)
theorem frontP_front (L : List (Int × Int)) : Front L (frontP L) := (swp_front (sortP_sorted L)).congr (fun x => (sortP_perm L).mem_iff)
theorem frontP_is {L F : List (Int × Int)} (h : Front L F) : F = frontP L := h.unique (frontP_front L)
theorem frontP_len (L : List (Int × Int)) : (frontP L).length ≤ L.length := by
  have := swp_len (sortP L); rw [sortP_len] at this; exact this
end Go.Proofs.Ytjdldmecjhddnaa
