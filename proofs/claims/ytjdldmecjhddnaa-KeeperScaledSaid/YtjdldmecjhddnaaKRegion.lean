/- Regions whose stores come last: loads are taken first under a condition that is asked only till the stores. No program in sight. -/
import Derived.OrdersHeld
import Derived.RegionTactic
import Derived.Deep.RegionHeld
namespace Go.Proofs.Ytjdldmecjhddnaa
set_option linter.unusedVariables false
set_option linter.unusedSimpArgs false
section
variable {P : Program} {ops : Array Oper} {Q : Exit → Act → World → Prop} {md : Region.Mode}

/-- Every operation numbered in L waits for number i. -/
def waits (md : Region.Mode) (ops : Array Oper) (L : List Nat) (i : Nat) : Bool := L.all fun j => match ops[j]? with | some o => o.after.any fun e => Region.binds md e && e.on == i | none => true
theorem waits_spec {L : List Nat} {i : Nat} (h : waits md ops L i = true) {j : Nat} (hj : j ∈ L) {o : Oper} (ho : ops[j]? = some o) : ∃ e ∈ o.after, Region.binds md e = true ∧ e.on = i := by
  have := List.all_eq_true.1 h j hj
  rw [ho] at this
  obtain ⟨k, hk, hp⟩ := Array.any_eq_true.1 this
  rw [Bool.and_eq_true, beq_iff_eq] at hp
  exact ⟨_, Array.getElem_mem hk, hp.1, hp.2⟩
/-- Till one of L has come up, S0 holds. -/
def Till (L : List Nat) (S0 : World → Prop) (listed : Array Bool) (w : World) : Prop := (∀ j ∈ L, listed.getD j true = false) → S0 w
theorem till_set {L : List Nat} {S0 : World → Prop} {listed : Array Bool} {w : World} {i : Nat} (hi : i ∉ L) : Till L S0 (listed.setIfInBounds i true) w ↔ Till L S0 listed w := by
  have e : ∀ j ∈ L, (listed.setIfInBounds i true).getD j true = listed.getD j true := fun j hj => getD_set_ne (i := i) (j := j) true (by rintro rfl; exact hi hj)
  exact ⟨fun h h2 => h (fun j hj => by rw [e j hj]; exact h2 j hj), fun h h2 => h (fun j hj => by rw [← e j hj]; exact h2 j hj)⟩
/-- Two conditions, each till one of its list has come up. -/
def Till2 (L1 : List Nat) (S1 : World → Prop) (L2 : List Nat) (S2 : World → Prop) (listed : Array Bool) (w : World) : Prop := Till L1 S1 listed w ∧ Till L2 S2 listed w
/-- Whatever order is picked, behind each operation T holds. -/
def wpTill (P : Program) (md : Region.Mode) (ops : Array Oper) (Q : Exit → Act → World → Prop) (T : Array Bool → World → Prop) : Nat → Array Bool → Act → World → Prop
  | 0, listed, a, w => Region.ready md ops listed = [] ∧ Q .normal a w
  | fuel + 1, listed, a, w => (Region.ready md ops listed = [] → Q .normal a w) ∧
    ∀ i ∈ Region.ready md ops listed, wpOp P ops Q i (fun a' w' => T (listed.setIfInBounds i true) w' ∧ wpTill P md ops Q T fuel (listed.setIfInBounds i true) a' w') a w
theorem wpAny_of_till {T : Array Bool → World → Prop} : ∀ (fuel : Nat) (listed : Array Bool) (a : Act) (w : World), wpTill P md ops Q T fuel listed a w → wpAny P md ops Q fuel listed a w
  | 0, _, _, _, h => h
  | fuel + 1, _, _, _, h => ⟨h.1, fun i hi => wpOp_mono (fun a' w' h' => wpAny_of_till fuel _ a' w' h'.2) (h.2 i hi)⟩
/-- One that all of L wait for, and that yields its value in every world that meets S0, may be taken first. -/
theorem till_first {T : Array Bool → World → Prop} {L : List Nat} {S0 : World → Prop} {i : Nat} {oi : Oper} {v : Value} (hi : ops[i]? = some oi) (hsel : ∀ (j : Nat) (o : Oper) cs b, ops[j]? = some o → o.op ≠ .select cs b)
    (hQ : ∀ c a w, Q (.panic c) (a.put oi.dst v) w → Q (.panic c) a w) (hwt : waits md ops L i = true)
    (hTe : ∀ listed w, T (Array.setIfInBounds listed i true) w ↔ T listed w) (hTS : ∀ listed w, T listed w → (∀ j ∈ L, listed.getD j true = false) → S0 w) (hiL : i ∉ L) :
    ∀ (fuel : Nat) (listed : Array Bool) (a : Act) (w : World),
      (∀ j oj, ops[j]? = some oj → j ≠ i → listed.getD j true = false → (∀ e ∈ oj.after, Region.binds md e = true → e.on ≠ i) → oi.apart ops oj = true) →
      i ∈ Region.ready md ops listed → YieldsIf P ops S0 oi v a → (∀ j ∈ L, listed.getD j true = false) → T listed w →
      wpTill P md ops Q T fuel (listed.setIfInBounds i true) (a.put oi.dst v) w → wpTill P md ops Q T (fuel + 1) listed a w := by
  intro fuel
  induction fuel with
  | zero =>
    intro listed a w _ hr hy hL hT H
    refine ⟨fun h => (by rw [h] at hr; cases hr), fun j hj => ?_⟩
    by_cases hji : j = i
    · subst hji; exact hy.wpOp hi (hTS _ _ hT hL) ⟨(hTe _ _).2 hT, H⟩
    · have := ready_mono hj hji
      rw [H.1] at this
      cases this
  | succ fuel ih =>
    intro listed a w hfree hr hy hL hT H
    refine ⟨fun h => (by rw [h] at hr; cases hr), fun j hj => ?_⟩
    by_cases hji : j = i
    · subst hji; exact hy.wpOp hi (hTS _ _ hT hL) ⟨(hTe _ _).2 hT, H⟩
    · have h1 := H.2 j (ready_mono hj hji)
      obtain ⟨hjun, oj, hoj, hall⟩ := mem_ready.1 hj
      have hnot : ∀ e ∈ oj.after, Region.binds md e = true → e.on ≠ i := fun e he hb heq => by
        have h1 := hall e he hb
        have h0 := (mem_ready.1 hr).1
        rw [heq] at h1
        rcases Nat.lt_or_ge i listed.size with h' | h'
        · simp [h'] at h0 h1; rw [h0] at h1; cases h1
        · simp [Array.getElem?_eq_none h'] at h1
      have hjL : j ∉ L := fun hm => by
        obtain ⟨e, he, hb, hon⟩ := waits_spec hwt hm hoj
        exact hnot e he hb hon
      have h2 := wpOp_putIf hoj (hfree j oj hoj hji hjun hnot) (fun cs b => hsel i oi cs b hi) (fun cs b => hsel j oj cs b hoj) hQ hy h1
      have hfree' : ∀ k ok, ops[k]? = some ok → k ≠ i → (listed.setIfInBounds j true).getD k true = false →
          (∀ e ∈ ok.after, Region.binds md e = true → e.on ≠ i) → oi.apart ops ok = true := fun k ok hk hki hun hno => by
        refine hfree k ok hk hki ?_ hno
        by_cases hjk : j = k
        · subst hjk; exact hjun
        · rw [getD_set_ne true hjk] at hun; exact hun
      have hL' : ∀ k ∈ L, (listed.setIfInBounds j true).getD k true = false := fun k hk => by
        rw [getD_set_ne (i := j) (j := k) true (by rintro rfl; exact hjL hk)]; exact hL k hk
      refine wpOp_mono (fun a' w' h3 => ?_) h2
      have hT' : T (listed.setIfInBounds j true) w' := by
        have := h3.2.1
        rw [Array.setIfInBounds_comm _ _ (Ne.symm hji)] at this
        exact (hTe _ _).1 this
      refine ⟨hT', ih (listed.setIfInBounds j true) a' w' hfree' (ready_mono hr (Ne.symm hji)) h3.1 hL' hT' ?_⟩
      rw [Array.setIfInBounds_comm _ _ hji]
      exact h3.2.2
/-- The same for the first of two conditions, its side conditions for evaluation. -/
theorem till_take1 {L1 L2 : List Nat} {S1 S2 : World → Prop} {i : Nat} {oi : Oper} {v : Value} {fuel : Nat} {listed : Array Bool} {a : Act} {w : World} (hi : ops[i]? = some oi)
    (hs : Region.noSelect ops = true) (hf : Region.free md ops listed i = true) (hr : (Region.ready md ops listed).contains i = true)
    (hwt : waits md ops L1 i = true) (hL : (L1.all fun j => listed.getD j true == false) = true) (hiL : L1.contains i = false) (hiL2 : L2.contains i = false)
    (hQ : ∀ c a w, Q (.panic c) (a.put oi.dst v) w → Q (.panic c) a w) (hy : YieldsIf P ops S1 oi v a) (hT : Till2 L1 S1 L2 S2 listed w)
    (h : Till2 L1 S1 L2 S2 (listed.setIfInBounds i true) w → wpTill P md ops Q (Till2 L1 S1 L2 S2) fuel (listed.setIfInBounds i true) (a.put oi.dst v) w) : wpTill P md ops Q (Till2 L1 S1 L2 S2) (fuel + 1) listed a w := by
  have h1 : i ∉ L1 := by simpa using hiL
  have h2 : i ∉ L2 := by simpa using hiL2
  have he : ∀ listed w, Till2 L1 S1 L2 S2 (Array.setIfInBounds listed i true) w ↔ Till2 L1 S1 L2 S2 listed w := fun l w => and_congr (till_set h1) (till_set h2)
  exact till_first (L := L1) hi (Region.noSelect_spec hs) hQ hwt he (fun l w ht hl => ht.1 hl) h1 fuel listed a w (Region.free_spec hi hf) (by simpa using hr) hy (fun j hj => by simpa using List.all_eq_true.1 hL j hj) hT (h ((he _ _).2 hT))
/-- The same for the second. -/
theorem till_take2 {L1 L2 : List Nat} {S1 S2 : World → Prop} {i : Nat} {oi : Oper} {v : Value} {fuel : Nat} {listed : Array Bool} {a : Act} {w : World} (hi : ops[i]? = some oi)
    (hs : Region.noSelect ops = true) (hf : Region.free md ops listed i = true) (hr : (Region.ready md ops listed).contains i = true)
    (hwt : waits md ops L2 i = true) (hL : (L2.all fun j => listed.getD j true == false) = true) (hiL : L1.contains i = false) (hiL2 : L2.contains i = false)
    (hQ : ∀ c a w, Q (.panic c) (a.put oi.dst v) w → Q (.panic c) a w) (hy : YieldsIf P ops S2 oi v a) (hT : Till2 L1 S1 L2 S2 listed w)
    (h : Till2 L1 S1 L2 S2 (listed.setIfInBounds i true) w → wpTill P md ops Q (Till2 L1 S1 L2 S2) fuel (listed.setIfInBounds i true) (a.put oi.dst v) w) : wpTill P md ops Q (Till2 L1 S1 L2 S2) (fuel + 1) listed a w := by
  have h1 : i ∉ L1 := by simpa using hiL
  have h2 : i ∉ L2 := by simpa using hiL2
  have he : ∀ listed w, Till2 L1 S1 L2 S2 (Array.setIfInBounds listed i true) w ↔ Till2 L1 S1 L2 S2 listed w := fun l w => and_congr (till_set h1) (till_set h2)
  exact till_first (L := L2) hi (Region.noSelect_spec hs) hQ hwt he (fun l w ht hl => ht.2 hl) h2 fuel listed a w (Region.free_spec hi hf) (by simpa using hr) hy (fun j hj => by simpa using List.all_eq_true.1 hL j hj) hT (h ((he _ _).2 hT))
/-- The one that may come up comes up. -/
theorem till_ready {T : Array Bool → World → Prop} {i : Nat} {o : Oper} {fuel : Nat} {listed : Array Bool} {a : Act} {w : World} (hr : Region.ready md ops listed = [i]) (ho : ops[i]? = some o)
    (h : ∀ K' : Act → World → Prop, Shut (∀ a w, T (listed.setIfInBounds i true) w → wpTill P md ops Q T fuel (listed.setIfInBounds i true) a w → K' a w) → if Region.wanted o (yielded ops a.tmps) = true then Oper.wp P o a w K' Q else K' (a.put o.dst undef) w) :
    wpTill P md ops Q T (fuel + 1) listed a w :=
  ⟨fun h0 => (by rw [hr] at h0; cases h0), fun j hj => by
    rw [hr] at hj
    obtain rfl : j = i := by simpa using hj
    exact wpOp_step ho (fun K' hK => h K' (fun a w h1 h2 => hK a w ⟨h1, h2⟩))⟩
theorem till_done {T : Array Bool → World → Prop} {listed : Array Bool} {a : Act} {w : World} (hr : Region.ready md ops listed = []) (h : Q .normal a w) : ∀ fuel, wpTill P md ops Q T fuel listed a w
  | 0 => ⟨hr, h⟩
  | _ + 1 => ⟨fun _ => h, by rw [hr]; simp⟩
/-- When one of the list has come up, its condition is asked no more. -/
theorem till_gone {L : List Nat} {S0 : World → Prop} {listed : Array Bool} {w : World} (hj : (L.any fun j => listed.getD j true) = true) : Till L S0 listed w := fun h => by
  obtain ⟨j, hm, hl⟩ := List.any_eq_true.1 hj
  rw [h j hm] at hl; cases hl
theorem till_hold {L : List Nat} {S0 : World → Prop} {listed : Array Bool} {w : World} (h : S0 w) : Till L S0 listed w := fun _ => h
theorem till_region {T : Array Bool → World → Prop} {id : Nat} {a : Act} {w : World} (hm : P.follows .mixedOrders = true) (hS : T (Array.replicate ops.size false) w.drew)
    (h : T (Array.replicate ops.size false) w.drew → wpTill P .any ops Q T ops.size (Array.replicate ops.size false) a w.drew) : (Code.region id ops true).wp P Q a w :=
  wp_region_any hm (wpAny_of_till _ _ _ _ (h hS))
end
end Go.Proofs.Ytjdldmecjhddnaa
