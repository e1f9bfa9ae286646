/- Plain mathematics of KeeperAll: Together, Best and Tree beside each other. -/
import Derived.Test.YtjdldmecjhddnaaKM5
import Derived.Test.YtjdldmecjhddnaaKA2
namespace Go.Proofs.Ytjdldmecjhddnaa
set_option linter.unusedVariables false
set_option linter.unusedSimpArgs false

theorem asked_yes {m : Mk} {l cl : List Int} (h : askedB m l cl = true) : fewB m = true ∧ l.length ≤ 100 ∧ m.ok = true ∧ right m.os.length l = true ∧ cl.all (okC m.n) = true := by
  unfold askedB at h
  simp only [Bool.and_eq_true, decide_eq_true_eq] at h
  exact ⟨h.1, h.2.1, h.2.2.1, h.2.2.2.1, h.2.2.2.2⟩
theorem clock_bd {m : Mk} {cl : List Int} (h : cl.all (okC m.n) = true) : ∀ c ∈ cl, 0 ≤ c ∧ c < m.n := by
  intro c hc
  have := List.all_eq_true.1 h c hc
  simpa only [okC, Bool.and_eq_true, decide_eq_true_eq] using this
theorem size_ok {width : Int} (h0 : 0 ≤ width) (h1 : width ≤ 16777216) : [width].all okS = true := by simp [okS, h0, h1]
theorem allS_iff {m : Mk} {s : Nat} {width : Int} : allS m s width = true ↔ ∀ a b, a < m.n.toNat → b < m.n.toNat → wd m.n.toNat (comps m (bits 12 s)) a b ≤ width := by
  unfold allS
  rw [List.all_eq_true]
  constructor
  · intro h a b ha hb
    have := List.all_eq_true.1 (h a (List.mem_range.2 ha)) b (List.mem_range.2 hb)
    simpa using this
  · intro h a ha
    rw [List.all_eq_true]
    intro b hb
    exact decide_eq_true (h a b (List.mem_range.1 ha) (List.mem_range.1 hb))
theorem wdS_small {m : Mk} (hok : m.ok = true) {s : Nat} (hs : s < 2 ^ m.os.length) {a b : Nat} (ha : a < m.n.toNat) (hb : b < m.n.toNat) (h : wd m.n.toNat (comps m (bits 12 s)) a b < far) : wd m.n.toNat (comps m (bits 12 s)) a b ≤ 7340032 := by
  have h1 := wd_small (M := 1048576) (by decide) (by decide) (fun o ho => (comps_offS hok hs o ho).w0) (fun o ho => (comps_offS hok hs o ho).w1) a b ha hb h
  have hn8 := (okM hok).n8
  have h7 : ((m.n.toNat - 1 : Nat) : Int) * 1048576 ≤ 7 * 1048576 := Int.mul_le_mul_of_nonneg_right (by omega) (by decide)
  omega
theorem all_wide {m : Mk} (hok : m.ok = true) {s : Nat} (hs : s < 2 ^ m.os.length) : allS m s 16777216 = allS m s 1099511627775 := by
  rw [Bool.eq_iff_iff, allS_iff, allS_iff]
  constructor
  · intro h a b ha hb
    have := h a b ha hb
    omega
  · intro h a b ha hb
    have h1 := h a b ha hb
    have := wdS_small hok hs ha hb (show _ < (1099511627776 : Int) by omega)
    omega
theorem tree_eq {m : Mk} (hok : m.ok = true) : leastS m.os (fun s => allS m s 16777216) = leastS m.os (fun s => allS m s 1099511627775) :=
  leastN_congr _ (fun s hs => all_wide hok hs) (fun s t _ _ => rfl)
theorem tree_few {m : Mk} (hok : m.ok = true) {b : Nat} (h : leastS m.os (fun s => allS m s 1099511627775) = some b) : (bits 12 b).length < m.n.toNat := by
  obtain ⟨hp, hb, hmin⟩ := leastS_some h
  have hn2 := (okM hok).n2
  have h12 := (okM hok).o12
  rcases Nat.lt_or_ge (bits 12 b).length m.n.toNat with h' | h'
  · exact h'
  · exfalso
    obtain ⟨S, t, _, hS, ht, hsub, hcnt, hr⟩ := grow hok hb rfl (fun j hj => by
      have := allS_iff.1 hp 0 j (by omega) hj
      show _ < (1099511627776 : Int)
      omega) (m.n.toNat - 1) (by omega)
    have hfull := cntN_full (p := S) (k := m.n.toNat) (by omega)
    have hwt := fun o ho => (comps_offS hok ht o ho).w0
    refine hmin t ht (allS_iff.2 fun x y hx hy => ?_) ?_
    · have h1 := wdS_small hok ht (by omega) hx (hr x hx (hfull x hx))
      have h2 := wdS_small hok ht (by omega) hy (hr y hy (hfull y hy))
      have h3 := wd_tri hwt x 0 y hx (by omega) hy
      have h4 := wd_symm hwt x 0 hx (by omega)
      omega
    · have hc := costS_mono hok hsub
      have hl : (bits 12 t).length < (bits 12 b).length := by
        have := bits_cnt t 12
        omega
      show costS m.os t < costS m.os b ∨ _
      rcases Int.lt_or_eq_of_le hc with h1 | h1
      · exact .inl h1
      · exact .inr ⟨h1, .inl hl⟩
theorem cost_bits {m : Mk} (hok : m.ok = true) {s : Nat} (hs : s < 2 ^ m.os.length) : costF m (bits 12 s) = (costS m.os s, 0) := by
  unfold costF
  have : askE m (bits 12 s) [] [] = 0 := ask_of hok (right_bits hs) rfl rfl
  rw [if_neg (by rw [this]; simp)]
theorem width_bits {m : Mk} (hok : m.ok = true) {s : Nat} (hs : s < 2 ^ m.os.length) {a b : Int} (hc : [a, b].all (okC m.n) = true) (h : wdS m s a b < 1099511627776) : widthF m (bits 12 s) a b = (wdS m s a b, true, 0) := by
  unfold widthF
  have : askE m (bits 12 s) [a, b] [] = 0 := ask_of hok (right_bits hs) hc rfl
  rw [if_neg (by rw [this]; simp)]
  show (if 1099511627776 ≤ wdS m s a b then _ else _) = _
  rw [if_neg (by omega)]
  rfl
theorem bits_small (s : Nat) : (bits 12 s).length ≤ 140737488355328 := by have := bits_len 12 s; omega
/-- What Tree and the widest Together hand back. -/
theorem tree_is {m : Mk} (hok : m.ok = true) : ∃ rl rb, treeF m = (rl, rb, 0) ∧ togF m 16777216 = (rl, rb, 0) ∧ (rl.length : Int) < m.n ∧ rl.length ≤ 140737488355328 := by
  have hn2 := (okM hok).n2
  have h0 : chkE m = 0 := by simp [chkE, hok]
  have h1 : askE m [] [] [16777216] = 0 := ask_of hok (right_nil _) rfl rfl
  unfold treeF togF
  rw [tree_eq hok]
  cases e : leastS m.os (fun s => allS m s 1099511627775) with
  | none => exact ⟨[], false, found_none h0, found_none h1, by show (0 : Int) < m.n; omega, by decide⟩
  | some b => exact ⟨_, true, found_some h0, found_some h1, by have := tree_few hok e; omega, bits_small b⟩
theorem all_none {m : Mk} {a b width : Int} (hask : askedB m [] [a, b] = true) (h0 : 0 ≤ width) (h1 : width ≤ 16777216) (h : leastS m.os (fun s => allS m s width) = none) :
    ∃ bl bb rl rb, togF m width = ([], false, 0) ∧ bestF m a b width = (bl, bb, 0) ∧ treeF m = (rl, rb, 0) ∧ togF m 16777216 = (rl, rb, 0) ∧ (rl.length : Int) < m.n ∧ rl.length ≤ 140737488355328 ∧ bl.length ≤ 140737488355328 := by
  obtain ⟨_, _, hok, _, hcl⟩ := asked_yes hask
  obtain ⟨rl, rb, e1, e2, e3, e4⟩ := tree_is hok
  have hb : askE m [] [a, b] [width] = 0 := ask_of hok (right_nil _) hcl (size_ok h0 h1)
  have ht : togF m width = ([], false, 0) := by unfold togF; rw [h]; exact found_none (ask_of hok (right_nil _) rfl (size_ok h0 h1))
  cases e : leastS m.os (fun s => decide (wdS m s a b ≤ width)) with
  | none => exact ⟨[], false, rl, rb, ht, by unfold bestF; rw [e]; exact found_none hb, e1, e2, e3, e4, by decide⟩
  | some s => exact ⟨_, true, rl, rb, ht, by unfold bestF; rw [e]; exact found_some hb, e1, e2, e3, e4, bits_small s⟩
theorem all_some {m : Mk} {a b width : Int} (hask : askedB m [] [a, b] = true) (h0 : 0 ≤ width) (h1 : width ≤ 16777216) {s : Nat} (h : leastS m.os (fun s => allS m s width) = some s) :
    ∃ tl bl rl ct cb cr x, togF m width = (tl, true, 0) ∧ bestF m a b width = (bl, true, 0) ∧ treeF m = (rl, true, 0) ∧ togF m 16777216 = (rl, true, 0) ∧ (rl.length : Int) < m.n ∧ rl.length ≤ 140737488355328 ∧ bl.length ≤ 140737488355328 ∧ tl.length ≤ 140737488355328
      ∧ costF m tl = (ct, 0) ∧ costF m bl = (cb, 0) ∧ costF m rl = (cr, 0) ∧ widthF m tl a b = (x, true, 0) ∧ cb ≤ ct ∧ cr ≤ ct ∧ x ≤ width := by
  obtain ⟨_, _, hok, _, hcl⟩ := asked_yes hask
  have hcl' := clock_bd hcl
  have ha := hcl' a (by simp)
  have hb' := hcl' b (by simp)
  obtain ⟨hp, hs, hmin⟩ := leastS_some h
  have hp' := allS_iff.1 hp
  have hb : askE m [] [a, b] [width] = 0 := ask_of hok (right_nil _) hcl (size_ok h0 h1)
  have ht : togF m width = (bits 12 s, true, 0) := by unfold togF; rw [h]; exact found_some (ask_of hok (right_nil _) rfl (size_ok h0 h1))
  have hwd : wdS m s a b ≤ width := hp' _ _ (by omega) (by omega)
  have hall : allS m s 1099511627775 = true := allS_iff.2 fun x y hx hy => by have := hp' x y hx hy; omega
  cases e : leastS m.os (fun s => decide (wdS m s a b ≤ width)) with
  | none =>
    have := leastS_none e s hs
    rw [decide_eq_true hwd] at this
    cases this
  | some u =>
    cases f : leastS m.os (fun s => allS m s 1099511627775) with
    | none =>
      have := leastS_none f s hs
      rw [hall] at this
      cases this
    | some v =>
      obtain ⟨_, hu, hum⟩ := leastS_some e
      obtain ⟨_, hv, hvm⟩ := leastS_some f
      have hcu := Bf.le (hum s hs (decide_eq_true hwd))
      have hcv := Bf.le (hvm s hs hall)
      have k0 : chkE m = 0 := by simp [chkE, hok]
      have k1 : askE m [] [] [16777216] = 0 := ask_of hok (right_nil _) rfl rfl
      exact ⟨bits 12 s, bits 12 u, bits 12 v, _, _, _, _, ht, by unfold bestF; rw [e]; exact found_some hb, by unfold treeF; rw [f]; exact found_some k0, by unfold togF; rw [tree_eq hok, f]; exact found_some k1, by have := tree_few hok f; omega, bits_small v, bits_small u, bits_small s,
        cost_bits hok hs, cost_bits hok hu, cost_bits hok hv, width_bits hok hs hcl (by omega), hcu, hcv, hwd⟩
end Go.Proofs.Ytjdldmecjhddnaa
