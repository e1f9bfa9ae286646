/- Plain mathematics of KeeperCheapest: Best beside the front of the clock. -/
import Derived.Test.YtjdldmecjhddnaaKM7
import Derived.Test.YtjdldmecjhddnaaK17
import Derived.Test.YtjdldmecjhddnaaKR6
namespace Go.Proofs.Ytjdldmecjhddnaa
set_option linter.unusedVariables false
set_option linter.unusedSimpArgs false

theorem set_of {m : Mk} {l : List Int} (hok : m.ok = true) (hr : right m.os.length l = true) : setN l < 2 ^ m.os.length ∧ bits 12 (setN l) = l :=
  ⟨setN_two (right_bd hr), bits_setN hr (okM hok).o12⟩
theorem prS_mem {m : Mk} {a b k : Nat} {p : Int × Int} : p ∈ prS m a b k ↔ ∃ s, s < k ∧ wd m.n.toNat (comps m (bits 12 s)) a b < 1099511627776 ∧ p = (costS m.os s, wd m.n.toNat (comps m (bits 12 s)) a b) := by
  unfold prS
  rw [List.mem_map]
  constructor
  · rintro ⟨s, hs, rfl⟩
    have := List.mem_filter.1 hs
    exact ⟨s, List.mem_range.1 this.1, by simpa using this.2, rfl⟩
  · rintro ⟨s, h1, h2, rfl⟩
    exact ⟨s, List.mem_filter.2 ⟨List.mem_range.2 h1, by simpa using h2⟩, rfl⟩
theorem frontsF_front (m : Mk) (a b : Nat) : Front (prS m a b (2 ^ m.os.length)) (frontsF m a b) := frontP_front _
theorem cost_right {m : Mk} {l : List Int} (hok : m.ok = true) (hr : right m.os.length l = true) : costF m l = (costL m.os l, 0) := by
  unfold costF
  have : askE m l [] [] = 0 := ask_of hok hr rfl rfl
  rw [if_neg (by rw [this]; simp)]
theorem width_right {m : Mk} {l : List Int} {a b : Int} (hok : m.ok = true) (hr : right m.os.length l = true) (hc : [a, b].all (okC m.n) = true) :
    ∃ n kn, widthF m l a b = (n, kn, 0) ∧ (kn = true → n = wdL m l a b ∧ wdL m l a b < 1099511627776) ∧ (kn = false → n = 0 ∧ 1099511627776 ≤ wdL m l a b) := by
  unfold widthF
  have : askE m l [a, b] [] = 0 := ask_of hok hr hc rfl
  rw [if_neg (by rw [this]; simp)]
  by_cases h : 1099511627776 ≤ wdL m l a b
  · rw [if_pos h]; exact ⟨_, _, rfl, (by intro h'; cases h'), fun _ => ⟨rfl, h⟩⟩
  · rw [if_neg h]; exact ⟨_, _, rfl, fun _ => ⟨rfl, by omega⟩, (by intro h'; cases h')⟩
theorem wdL_set {m : Mk} {l : List Int} (hok : m.ok = true) (hr : right m.os.length l = true) (a b : Int) : wdL m l a b = wdS m (setN l) a b := by
  unfold wdL wdS; rw [(set_of hok hr).2]
theorem fronts_is {m : Mk} {a : Int} (hok : m.ok = true) (hc : [a].all (okC m.n) = true) : frontsLF m a = ((List.range m.n.toNat).map (frontsF m a.toNat), 0) := by
  unfold frontsLF
  have : askE m [] [a] [] = 0 := ask_of hok (right_nil _) hc rfl
  rw [if_neg (by rw [this]; simp)]
theorem rows_at {α : Type} (f : Nat → α) {n b : Nat} (h : b < n) : ((List.range n).map f)[b]? = some (f b) := by
  rw [List.getElem?_map, List.getElem?_range h]; rfl
theorem clocks_one {n a b : Int} (h : [a, b].all (okC n) = true) : [a].all (okC n) = true := by
  simp only [List.all_cons, List.all_nil, Bool.and_true, Bool.and_eq_true] at h ⊢; exact h.1
theorem befL_iff {c d : Int} {xs ys : List Int} : befL c xs d ys = true ↔ Bf c xs d ys := by
  by_cases h : c = d
  · subst h
    by_cases h2 : xs.length = ys.length
    · rw [befL_list h2]; unfold Bf; rw [decide_eq_true_eq]; omega
    · rw [befL_len h2]; unfold Bf; rw [decide_eq_true_eq]; omega
  · rw [befL_cost h]; unfold Bf; rw [decide_eq_true_eq]; omega
theorem cheap_none {m : Mk} {l : List Int} {a b width : Int} (hask : askedB m l [a, b] = true) (h0 : 0 ≤ width) (h1 : width ≤ 16777216) (h : leastS m.os (fun s => decide (wdS m s a b ≤ width)) = none) :
    ∃ rows F n kn x, bestF m a b width = ([], false, 0) ∧ frontsLF m a = (rows, 0) ∧ widthF m l a b = (n, kn, 0) ∧ costF m l = (x, 0) ∧ (kn = true → width < n) ∧ rows.length = m.n.toNat ∧ rows[b.toNat]? = some F ∧ F.length ≤ 4096 ∧ (∀ q ∈ F, decide (q.2 ≤ width) = false) := by
  obtain ⟨_, _, hok, hr, hcl⟩ := asked_yes hask
  have hcl' := clock_bd hcl
  have ha := hcl' a (by simp)
  have hb' := hcl' b (by simp)
  have hb : askE m [] [a, b] [width] = 0 := ask_of hok (right_nil _) hcl (size_ok h0 h1)
  have hno := leastS_none h
  obtain ⟨n, kn, e3, q1, q2⟩ := width_right (l := l) hok hr hcl
  refine ⟨_, _, n, kn, _, by unfold bestF; rw [h]; exact found_none hb, fronts_is hok (clocks_one hcl), e3, cost_right hok hr, fun hk => ?_, by simp, rows_at _ (by omega), frontsF_len m _ _ hok, fun q hq => ?_⟩
  · have := q1 hk
    have h2 := hno _ (set_of hok hr).1
    rw [decide_eq_false_iff_not, ← wdL_set hok hr] at h2
    omega
  · obtain ⟨s, hs, hlt, rfl⟩ := prS_mem.1 ((frontsF_front m a.toNat b.toNat).mem q hq)
    exact hno s hs
theorem cheap_some {m : Mk} {l : List Int} {a b width : Int} (hask : askedB m l [a, b] = true) (h0 : 0 ≤ width) (h1 : width ≤ 16777216) {s : Nat} (h : leastS m.os (fun s => decide (wdS m s a b ≤ width)) = some s) :
    ∃ rows F n kn x bl y z, bestF m a b width = (bl, true, 0) ∧ frontsLF m a = (rows, 0) ∧ widthF m l a b = (n, kn, 0) ∧ costF m l = (x, 0) ∧ rows.length = m.n.toNat ∧ rows[b.toNat]? = some F ∧ F.length ≤ 4096
      ∧ costF m bl = (y, 0) ∧ widthF m bl a b = (z, true, 0) ∧ z ≤ width ∧ bl.length ≤ 140737488355328 ∧ (∃ q ∈ F, decide (q.2 ≤ width) = true)
      ∧ (∀ (k : Nat) (q : Int × Int), F[k]? = some q → decide (q.2 ≤ width) = true → (∀ (j : Nat), j < k → ∀ (q' : Int × Int), F[j]? = some q' → decide (q'.2 ≤ width) = false) → q.1 = y) ∧ (kn = true → n ≤ width → befL x l y bl = false) := by
  obtain ⟨_, _, hok, hr, hcl⟩ := asked_yes hask
  have hcl' := clock_bd hcl
  have ha := hcl' a (by simp)
  have hb' := hcl' b (by simp)
  have hb : askE m [] [a, b] [width] = 0 := ask_of hok (right_nil _) hcl (size_ok h0 h1)
  obtain ⟨hp, hs, hmin⟩ := leastS_some h
  have hp' : wdS m s a b ≤ width := of_decide_eq_true hp
  obtain ⟨n, kn, e3, q1, q2⟩ := width_right (l := l) hok hr hcl
  have hF := frontsF_front m a.toNat b.toNat
  obtain ⟨q0, hq0, hd⟩ := hF.dom _ (prS_mem.2 ⟨s, hs, show wdS m s a b < _ by omega, rfl⟩)
  have hd1 : q0.1 ≤ costS m.os s := hd.1
  have hd2 : q0.2 ≤ wdS m s a b := hd.2
  refine ⟨_, _, n, kn, _, bits 12 s, _, _, by unfold bestF; rw [h]; exact found_some hb, fronts_is hok (clocks_one hcl), e3, cost_right hok hr, by simp, rows_at _ (by omega), frontsF_len m _ _ hok, cost_bits hok hs, width_bits hok hs hcl (by omega), hp', bits_small s,
    ⟨q0, hq0, decide_eq_true (by omega)⟩, fun k q hk hq hfst => ?_, fun hk hn => ?_⟩
  · have hqm := List.mem_of_getElem? hk
    obtain ⟨t, ht, hlt, rfl⟩ := prS_mem.1 (hF.mem q hqm)
    have hge : costS m.os s ≤ costS m.os t := Bf.le (hmin t ht hq)
    refine Int.le_antisymm ?_ hge
    show costS m.os t ≤ costS m.os s
    obtain ⟨i, hi, hqi⟩ := List.mem_iff_getElem.1 hq0
    rcases Nat.lt_or_ge i k with h' | h'
    · have := hfst i h' q0 (by rw [List.getElem?_eq_getElem hi, hqi])
      rw [decide_eq_false_iff_not] at this
      omega
    · obtain ⟨hk', hqk⟩ := List.getElem?_eq_some_iff.1 hk
      rcases Nat.lt_or_ge k i with h2 | h2
      · have := (List.pairwise_iff_getElem.1 hF.falls k i hk' hi h2).1
        rw [hqk, hqi] at this
        have : costS m.os t < q0.1 := this
        omega
      · obtain rfl : i = k := by omega
        have : q0 = (costS m.os t, wd m.n.toNat (comps m (bits 12 t)) a.toNat b.toNat) := hqi.symm.trans hqk
        rw [this] at hd1
        exact hd1
  · cases e : befL (costL m.os l) l (costS m.os s) (bits 12 s) with
    | false => rfl
    | true =>
      have hbf := befL_iff.1 e
      obtain ⟨g1, g2⟩ := set_of hok hr
      have hw := (q1 hk).1
      rw [wdL_set hok hr] at hw
      refine absurd ?_ (hmin _ g1 (decide_eq_true (show wdS m (setN l) a b ≤ width by omega)))
      show Bf (costL m.os (bits 12 (setN l))) (bits 12 (setN l)) (costS m.os s) (bits 12 s)
      rw [g2]
      exact hbf
end Go.Proofs.Ytjdldmecjhddnaa
