/- The contracts of the reference's width, reaches, Before. -/
import Derived.Test.YtjdldmecjhddnaaKR4
import Derived.Test.YtjdldmecjhddnaaKM2
namespace Go.Proofs.Ytjdldmecjhddnaa
open Go.RowKit
set_option linter.unusedVariables false
set_option linter.unusedSimpArgs false

theorem comps_off {m : Mk} {l : List Int} (hok : m.ok = true) (hbd : ∀ x ∈ l, 0 ≤ x ∧ x < m.os.length) : ∀ o ∈ comps m l, isOff o m.n 10000 = true := by
  intro o ho
  rcases List.mem_append.1 ho with h | h
  · exact isOff_mono ((okM hok).ks o h) (by omega)
  · exact (okM hok).os o (sel_mem hbd o h)
theorem comps_len {m : Mk} {l : List Int} (hok : m.ok = true) (h12 : l.length ≤ 12) : (comps m l).length ≤ 36 := by
  unfold comps
  rw [List.length_append, sel_len]
  have := (okM hok).k24
  omega
theorem comps_wd {m : Mk} {l : List Int} (hok : m.ok = true) (hbd : ∀ x ∈ l, 0 ≤ x ∧ x < m.os.length) (h12 : l.length ≤ 12) (W : World) (c1 : Option Addr) (c2 : Nat) (hrd : RdO W c1 (comps m l)) :
    Calls Try.prog 93 #[.int .i64 m.n, .slice c1 (comps m l).length c2] W fun e w' => ∃ v, e = .returned v ∧ Tab w' W.heap.size v m.n.toNat (wd m.n.toNat (comps m l)) ∧ Below W.heap.size W w' := by
  have h2 := (okM hok).n2
  have h8 := (okM hok).n8
  have h := r_widths m.n.toNat (comps m l) c1 (comps m l).length c2 W (by omega) (by omega) rfl hrd (by have := comps_len hok h12; omega) (by rw [Int.toNat_of_nonneg (by omega)]; exact comps_off hok hbd)
  rw [Int.toNat_of_nonneg (by omega)] at h
  exact h

set_option maxHeartbeats 4000000 in
set_option maxRecDepth 100000 in
theorem r_width (m : Mk) (mv : Value) (l : List Int) (la : Option Addr) (ln lc : Nat) (a b : Nat) (w : World) (hm : MkRd w m mv) (hln : l.length = ln) (hl : RdI w la l) (hok : m.ok = true) (hbd : ∀ x ∈ l, 0 ≤ x ∧ x < m.os.length) (h12 : l.length ≤ 12) (ha : (a : Int) < m.n) (hb : (b : Int) < m.n) :
    Calls Try.prog 76 #[mv, .slice la ln lc, .int .i64 (a : Int), .int .i64 (b : Int)] w fun e w' => e = .returned (.int .i64 (wdL m l a b)) ∧ Below w.heap.size w w' := by
  have HLN := Lib.hid hln
  have HL := Lib.hid hl
  have HOK := Lib.hid hok
  have HBD := Lib.hid hbd
  have n2 := (okM hok).n2
  have n8 := (okM hok).n8
  have HWD := Lib.hid (comps_wd hok hbd h12)
  clear hln hl hok hbd
  have HM := Lib.hid hm
  obtain ⟨ka, kc, oa, oc, rfl, _⟩ := hm
  have hB : Below w.heap.size w (w.alloc (.cells #[.int .i64 m.n, .slice ka m.ks.length kc, .slice oa m.os.length oc] 24)) := bal (Below.refl _ _) _
  have m0 : (w.alloc (.cells #[.int .i64 m.n, .slice ka m.ks.length kc, .slice oa m.os.length oc] 24)).cell? ⟨w.heap.size, 0, none⟩ = some (.int .i64 m.n) := by simp
  have m1 : (w.alloc (.cells #[.int .i64 m.n, .slice ka m.ks.length kc, .slice oa m.os.length oc] 24)).cell? ⟨w.heap.size, 1, none⟩ = some (.slice ka m.ks.length kc) := by simp
  have m2 : (w.alloc (.cells #[.int .i64 m.n, .slice ka m.ks.length kc, .slice oa m.os.length oc] 24)).cell? ⟨w.heap.size, 2, none⟩ = some (.slice oa m.os.length oc) := by simp
  have HE := Lib.hid (show wdL m l a b = wd m.n.toNat (comps m l) a b from rfl)
  obtain ⟨D, hD⟩ : ∃ D, Hid (D = wd m.n.toNat (comps m l)) := ⟨_, Lib.hid rfl⟩
  rw [← hD.out] at HE HWD
  obtain ⟨n, hn⟩ : ∃ n, n = m.n.toNat := ⟨_, rfl⟩
  rw [← hn] at HWD
  have an : (a : Int) < (n : Int) := by omega
  have bn : (b : Int) < (n : Int) := by omega
  clear hn
  have a0 : (0 : Int) ≤ (a : Int) := Int.natCast_nonneg _
  have b0 : (0 : Int) ≤ (b : Int) := Int.natCast_nonneg _
  go_enter Try.func76, Try.ntmps76
  go_wp2_with fail
  refine wp_region_held_drew (S := (fun w' => w'.cell? ⟨w.heap.size, 0, none⟩ = some (.int .i64 m.n) ∧ w'.cell? ⟨w.heap.size, 1, none⟩ = some (.slice ka m.ks.length kc) ∧ w'.cell? ⟨w.heap.size, 2, none⟩ = some (.slice oa m.os.length oc))) (by kernel_rfl) ⟨cdw m0, cdw m1, cdw m2⟩ (fun hHeld => ?_)
  refine wpAnyH_take (i := 0) (v := ?v0) rfl (by kernel_rfl) (by kernel_rfl) (by kernel_rfl) (fun _ _ _ h => h) (Or.inl ⟨by rfl, ?y0⟩) hHeld ?r0
  case y0 => (intro wS hSw; (try dsimp only at hSw); go_split_ands; go_simp <;> with_reducible rfl)
  (try simp only [Act.put, List.setIfInBounds_toArray, List.set_cons_zero, List.set_cons_succ])
  refine wpAnyH_take (i := 1) (v := ?v1) rfl (by kernel_rfl) (by kernel_rfl) (by kernel_rfl) (fun _ _ _ h => h) (Or.inl ⟨by rfl, ?y1⟩) hHeld ?r1
  case y1 => (intro wS hSw; (try dsimp only at hSw); go_split_ands; go_simp <;> with_reducible rfl)
  (try simp only [Act.put, List.setIfInBounds_toArray, List.set_cons_zero, List.set_cons_succ])
  refine wpAnyH_take (i := 2) (v := ?v2) rfl (by kernel_rfl) (by kernel_rfl) (by kernel_rfl) (fun _ _ _ h => h) (Or.inl ⟨by rfl, ?y2⟩) hHeld ?r2
  case y2 => (intro wS hSw; (try dsimp only at hSw); go_split_ands; go_simp <;> with_reducible rfl)
  (try simp only [Act.put, List.setIfInBounds_toArray, List.set_cons_zero, List.set_cons_succ])
  refine wpAnyH_take (i := 3) (v := ?v3) rfl (by kernel_rfl) (by kernel_rfl) (by kernel_rfl) (fun _ _ _ h => h) (Or.inl ⟨by rfl, ?y3⟩) hHeld ?r3
  case y3 => (intro wS hSw; (try dsimp only at hSw); go_split_ands; go_simp <;> with_reducible rfl)
  (try simp only [Act.put, List.setIfInBounds_toArray, List.set_cons_zero, List.set_cons_succ])
  refine wpAnyH_take (i := 6) (v := ?v6) rfl (by kernel_rfl) (by kernel_rfl) (by kernel_rfl) (fun _ _ _ h => h) (Or.inl ⟨by rfl, ?y6⟩) hHeld ?r6
  case y6 => (intro wS hSw; (try dsimp only at hSw); go_split_ands; go_simp <;> with_reducible rfl)
  (try simp only [Act.put, List.setIfInBounds_toArray, List.set_cons_zero, List.set_cons_succ])
  refine wpAnyH_take (i := 9) (v := ?v9) rfl (by kernel_rfl) (by kernel_rfl) (by kernel_rfl) (fun _ _ _ h => h) (Or.inl ⟨by rfl, ?y9⟩) hHeld ?r9
  case y9 => (intro wS hSw; (try dsimp only at hSw); go_split_ands; go_simp <;> with_reducible rfl)
  (try simp only [Act.put, List.setIfInBounds_toArray, List.set_cons_zero, List.set_cons_succ])
  refine wpAnyH_ready (rs := [4]) (by kernel_rfl) (by simp) ?_
  refine AllReadyH.cons (o := _) rfl (fun K hK => ?_) AllReadyH.nil
  go_simp
  refine (r_Comparisons m _ l _ _ _ _ (by exact HM.out.below hB.drew) HLN.out (by exact HL.out.below hB.drew) HOK.out HBD.out h12).mono ?_
  rintro e w2 ⟨v2, rfl, hown, hb1⟩
  obtain ⟨c1, c2, hv2, hrd⟩ := own_rd (enc := encO) (k := 4) (fun _ => rfl) hown
  subst hv2
  clear hown
  refine hK.out _ _ ⟨below_cell hb1 (cdw m0), below_cell hb1 (cdw m1), below_cell hb1 (cdw m2)⟩ (fun hHeld => ?_)
  clear hK K
  (try simp only [Act.put, List.setIfInBounds_toArray, List.set_cons_zero, List.set_cons_succ])
  refine wpAnyH_ready (rs := [5]) (by kernel_rfl) (by simp) ?_
  refine AllReadyH.cons (o := _) rfl (fun K hK => ?_) AllReadyH.nil
  go_simp
  refine (HWD.out _ _ _ hrd).mono ?_
  rintro e w3 ⟨v3, rfl, ⟨g, cap, f, c, rfl, hT⟩, hb2⟩
  have t1 := hT.row a (by omega)
  have t2 := hT.cell a b (by omega) (by omega)
  have hBz := hB.drew.trans ((bthen hb1 hb2).mono hB.size)
  refine hK.out _ _ ⟨below_cell hb2 (below_cell hb1 (cdw m0)), below_cell hb2 (below_cell hb1 (cdw m1)), below_cell hb2 (below_cell hb1 (cdw m2))⟩ (fun hHeld => ?_)
  clear hK K
  (try simp only [Act.put, List.setIfInBounds_toArray, List.set_cons_zero, List.set_cons_succ])
  refine wpAnyH_ready (rs := [7]) (by kernel_rfl) (by simp) ?_
  refine AllReadyH.cons (o := _) rfl (fun K hK => ?_) AllReadyH.nil
  go_simp
  refine hK.out _ _ hHeld (fun hHeld => ?_)
  clear hK K
  (try simp only [Act.put, List.setIfInBounds_toArray, List.set_cons_zero, List.set_cons_succ])
  refine wpAnyH_ready (rs := [8]) (by kernel_rfl) (by simp) ?_
  refine AllReadyH.cons (o := _) rfl (fun K hK => ?_) AllReadyH.nil
  go_simp
  refine hK.out _ _ hHeld (fun hHeld => ?_)
  clear hK K
  (try simp only [Act.put, List.setIfInBounds_toArray, List.set_cons_zero, List.set_cons_succ])
  refine wpAnyH_ready (rs := [10]) (by kernel_rfl) (by simp) ?_
  refine AllReadyH.cons (o := _) rfl (fun K hK => ?_) AllReadyH.nil
  go_simp
  refine hK.out _ _ hHeld (fun hHeld => ?_)
  clear hK K
  (try simp only [Act.put, List.setIfInBounds_toArray, List.set_cons_zero, List.set_cons_succ])
  refine wpAnyH_ready (rs := [11]) (by kernel_rfl) (by simp) ?_
  refine AllReadyH.cons (o := _) rfl (fun K hK => ?_) AllReadyH.nil
  go_simp
  refine hK.out _ _ hHeld (fun hHeld => ?_)
  clear hK K
  (try simp only [Act.put, List.setIfInBounds_toArray, List.set_cons_zero, List.set_cons_succ])
  refine wpAnyH_ready (rs := [12]) (by kernel_rfl) (by simp) ?_
  refine AllReadyH.cons (o := _) rfl (fun K hK => ?_) AllReadyH.nil
  go_simp
  refine hK.out _ _ hHeld (fun hHeld => ?_)
  clear hK K
  (try simp only [Act.put, List.setIfInBounds_toArray, List.set_cons_zero, List.set_cons_succ])
  refine wpAnyH_done (by kernel_rfl) ?_ _
  go_wp2
  go_ret
  exact ⟨ret_int HE.out.symm, hBz⟩

set_option maxHeartbeats 4000000 in
set_option maxRecDepth 100000 in
theorem r_reaches (m : Mk) (mv : Value) (l : List Int) (la : Option Addr) (ln lc : Nat) (a b : Nat) (most mm : Int) (w : World) (hm : MkRd w m mv) (hln : l.length = ln) (hl : RdI w la l) (hok : m.ok = true) (hbd : ∀ x ∈ l, 0 ≤ x ∧ x < m.os.length) (h12 : l.length ≤ 12) (ha : (a : Int) < m.n) (hb : (b : Int) < m.n) (hmm : ∀ x : Int, (x ≤ most ∧ x < 1099511627776) ↔ x ≤ mm) :
    Calls Try.prog 65 #[mv, .slice la ln lc, .int .i64 (a : Int), .int .i64 (b : Int), .int .i64 most] w fun e w' => e = .returned (.bool (decide (wdL m l a b ≤ mm))) ∧ Below w.heap.size w w' := by
  have HMM := Lib.hid hmm
  clear hmm
  have HLN := Lib.hid hln
  have HL := Lib.hid hl
  have HOK := Lib.hid hok
  have HBD := Lib.hid hbd
  have n2 := (okM hok).n2
  have n8 := (okM hok).n8
  have HWD := Lib.hid (comps_wd hok hbd h12)
  clear hln hl hok hbd
  have HM := Lib.hid hm
  obtain ⟨ka, kc, oa, oc, rfl, _⟩ := hm
  have hB : Below w.heap.size w (w.alloc (.cells #[.int .i64 m.n, .slice ka m.ks.length kc, .slice oa m.os.length oc] 24)) := bal (Below.refl _ _) _
  have m0 : (w.alloc (.cells #[.int .i64 m.n, .slice ka m.ks.length kc, .slice oa m.os.length oc] 24)).cell? ⟨w.heap.size, 0, none⟩ = some (.int .i64 m.n) := by simp
  have m1 : (w.alloc (.cells #[.int .i64 m.n, .slice ka m.ks.length kc, .slice oa m.os.length oc] 24)).cell? ⟨w.heap.size, 1, none⟩ = some (.slice ka m.ks.length kc) := by simp
  have m2 : (w.alloc (.cells #[.int .i64 m.n, .slice ka m.ks.length kc, .slice oa m.os.length oc] 24)).cell? ⟨w.heap.size, 2, none⟩ = some (.slice oa m.os.length oc) := by simp
  have HE := Lib.hid (show wdL m l a b = wd m.n.toNat (comps m l) a b from rfl)
  obtain ⟨D, hD⟩ : ∃ D, Hid (D = wd m.n.toNat (comps m l)) := ⟨_, Lib.hid rfl⟩
  rw [← hD.out] at HE HWD
  obtain ⟨n, hn⟩ : ∃ n, n = m.n.toNat := ⟨_, rfl⟩
  rw [← hn] at HWD
  have an : (a : Int) < (n : Int) := by omega
  have bn : (b : Int) < (n : Int) := by omega
  clear hn
  have a0 : (0 : Int) ≤ (a : Int) := Int.natCast_nonneg _
  have b0 : (0 : Int) ≤ (b : Int) := Int.natCast_nonneg _
  have tn : ((a : Int) != -1) = true := by simp <;> omega
  go_enter Try.func65, Try.ntmps65
  go_wp2_with fail
  go_region_held3 (fun w' => w'.cell? ⟨w.heap.size, 0, none⟩ = some (.int .i64 m.n) ∧ w'.cell? ⟨w.heap.size, 1, none⟩ = some (.slice ka m.ks.length kc) ∧ w'.cell? ⟨w.heap.size, 2, none⟩ = some (.slice oa m.os.length oc)) (first | go_keep | (go_split_ands; exact ⟨below_cell hb2 ‹_›, below_cell hb2 ‹_›, below_cell hb2 ‹_›⟩) | (go_split_ands; exact ⟨below_cell hb1 ‹_›, below_cell hb1 ‹_›, below_cell hb1 ‹_›⟩) | fail)
    (first
      | (go_at_call 94; refine (r_Comparisons m _ l _ _ _ _ (by exact HM.out.below hB.drew) HLN.out (by exact HL.out.below hB.drew) HOK.out HBD.out h12).mono ?_; rintro e w2 ⟨v2, rfl, hown, hb1⟩; obtain ⟨c1, c2, hv2, hrd⟩ := own_rd (enc := encO) (k := 4) (fun _ => rfl) hown; subst hv2; clear hown)
      | (go_at_call 93; refine (HWD.out _ _ _ hrd).mono ?_; rintro e w3 ⟨v3, rfl, ⟨g, cap, f, c, rfl, hT⟩, hb2⟩))
  have hBz := hB.drew.trans ((bthen hb1 hb2).mono hB.size)
  replace m0 := below_cell hb2 (below_cell hb1 (cdw m0))
  clear hb1 hb2 hB hrd
  have t1 := hT.row a (by omega)
  have t2 := hT.cell a b (by omega) (by omega)
  clear hT
  by_cases h1 : D a b ≤ most
  · by_cases h2 : D a b < 1099511627776
    · have HR := Lib.hid ((HMM.out _).1 ⟨h1, h2⟩)
      go_wp2
      go_ret
      exact ⟨ret_bool (by rw [HE.out]; exact (decide_eq_true HR.out).symm), hBz⟩
    · have HR := Lib.hid (fun h => h2 ((HMM.out _).2 h).2)
      go_wp2
      go_ret
      exact ⟨ret_bool (by rw [HE.out]; exact (decide_eq_false HR.out).symm), hBz⟩
  · have HR := Lib.hid (fun h => h1 ((HMM.out _).2 h).1)
    go_wp2
    go_ret
    exact ⟨ret_bool (by rw [HE.out]; exact (decide_eq_false HR.out).symm), hBz⟩

def allL (m : Mk) (l : List Int) (mm : Int) : Bool := (List.range m.n.toNat).all fun a => (List.range m.n.toNat).all fun b => decide (wd m.n.toNat (comps m l) a b ≤ mm)
theorem all2_yes {n : Nat} {D : Nat → Nat → Int} {mm : Int} (h : ∀ x y, x < n → y < n → D x y ≤ mm) : ((List.range n).all fun a => (List.range n).all fun b => decide (D a b ≤ mm)) = true :=
  List.all_eq_true.2 (fun x hx => List.all_eq_true.2 (fun y hy => decide_eq_true (h x y (List.mem_range.1 hx) (List.mem_range.1 hy))))
theorem all2_no {n : Nat} {D : Nat → Nat → Int} {mm : Int} {x y : Nat} (hx : x < n) (hy : y < n) (h : ¬ D x y ≤ mm) : ((List.range n).all fun a => (List.range n).all fun b => decide (D a b ≤ mm)) = false := by
  cases e : (List.range n).all fun a => (List.range n).all fun b => decide (D a b ≤ mm) with
  | false => rfl
  | true => exact absurd (of_decide_eq_true (List.all_eq_true.1 (List.all_eq_true.1 e x (List.mem_range.2 hx)) y (List.mem_range.2 hy))) h

set_option maxHeartbeats 4000000 in
set_option maxRecDepth 100000 in
theorem r_reachesAll (m : Mk) (mv : Value) (l : List Int) (la : Option Addr) (ln lc : Nat) (z most mm : Int) (w : World) (hm : MkRd w m mv) (hln : l.length = ln) (hl : RdI w la l) (hok : m.ok = true) (hbd : ∀ x ∈ l, 0 ≤ x ∧ x < m.os.length) (h12 : l.length ≤ 12) (hmm : ∀ x : Int, (x ≤ most ∧ x < 1099511627776) ↔ x ≤ mm) :
    Calls Try.prog 65 #[mv, .slice la ln lc, .int .i64 (-1), .int .i64 z, .int .i64 most] w fun e w' => e = .returned (.bool (allL m l mm)) ∧ Below w.heap.size w w' := by
  have HMM := Lib.hid hmm
  clear hmm
  have HLN := Lib.hid hln
  have HL := Lib.hid hl
  have HOK := Lib.hid hok
  have HBD := Lib.hid hbd
  have n2 := (okM hok).n2
  have n8 := (okM hok).n8
  have HWD := Lib.hid (comps_wd hok hbd h12)
  clear hln hl hok hbd
  have HM := Lib.hid hm
  obtain ⟨ka, kc, oa, oc, rfl, _⟩ := hm
  have hB : Below w.heap.size w (w.alloc (.cells #[.int .i64 m.n, .slice ka m.ks.length kc, .slice oa m.os.length oc] 24)) := bal (Below.refl _ _) _
  have m0 : (w.alloc (.cells #[.int .i64 m.n, .slice ka m.ks.length kc, .slice oa m.os.length oc] 24)).cell? ⟨w.heap.size, 0, none⟩ = some (.int .i64 m.n) := by simp
  have m1 : (w.alloc (.cells #[.int .i64 m.n, .slice ka m.ks.length kc, .slice oa m.os.length oc] 24)).cell? ⟨w.heap.size, 1, none⟩ = some (.slice ka m.ks.length kc) := by simp
  have m2 : (w.alloc (.cells #[.int .i64 m.n, .slice ka m.ks.length kc, .slice oa m.os.length oc] 24)).cell? ⟨w.heap.size, 2, none⟩ = some (.slice oa m.os.length oc) := by simp
  obtain ⟨D, hD⟩ : ∃ D, Hid (D = wd m.n.toNat (comps m l)) := ⟨_, Lib.hid rfl⟩
  have HE := Lib.hid (show allL m l mm = (List.range m.n.toNat).all fun a => (List.range m.n.toNat).all fun b => decide (D a b ≤ mm) from by rw [hD.out]; rfl)
  rw [← hD.out] at HWD
  obtain ⟨n, hn⟩ : ∃ n, n = m.n.toNat := ⟨_, rfl⟩
  have hnn : (n : Int) = m.n := by omega
  rw [← hn] at HE HWD
  have HNN := Lib.hid hnn
  clear hn hnn
  go_enter Try.func65, Try.ntmps65
  go_wp2_with fail
  go_region_held3 (fun w' => w'.cell? ⟨w.heap.size, 0, none⟩ = some (.int .i64 m.n) ∧ w'.cell? ⟨w.heap.size, 1, none⟩ = some (.slice ka m.ks.length kc) ∧ w'.cell? ⟨w.heap.size, 2, none⟩ = some (.slice oa m.os.length oc)) (first | go_keep | (go_split_ands; exact ⟨below_cell hb2 ‹_›, below_cell hb2 ‹_›, below_cell hb2 ‹_›⟩) | (go_split_ands; exact ⟨below_cell hb1 ‹_›, below_cell hb1 ‹_›, below_cell hb1 ‹_›⟩) | fail)
    (first
      | (go_at_call 94; refine (r_Comparisons m _ l _ _ _ _ (by exact HM.out.below hB.drew) HLN.out (by exact HL.out.below hB.drew) HOK.out HBD.out h12).mono ?_; rintro e w2 ⟨v2, rfl, hown, hb1⟩; obtain ⟨c1, c2, hv2, hrd⟩ := own_rd (enc := encO) (k := 4) (fun _ => rfl) hown; subst hv2; clear hown)
      | (go_at_call 93; refine (HWD.out _ _ _ hrd).mono ?_; rintro e w3 ⟨v3, rfl, ⟨g, cap, f, c, rfl, hT⟩, hb2⟩))
  have hBz := hB.drew.trans ((bthen hb1 hb2).mono hB.size)
  replace m0 := below_cell hb2 (below_cell hb1 (cdw m0))
  clear hb1 hb2 hB hrd
  clear m1 m2
  have hsz : w.heap.size < w3.heap.size := World.block_lt_of_cell? w3 _ m0
  go_wp2_with fail
  go_loop [12] (fun i => ∃ a : Nat, a ≤ n ∧ i = .int .i64 a ∧ Hid (∀ x y, x < a → y < n → D x y ≤ mm)) (fun i => n - (intOf i).toNat)
  case atStart => exact ⟨0, Nat.zero_le _, rfl, Lib.hid (fun x y h => absurd h (Nat.not_lt_zero _))⟩
  case round =>
    obtain ⟨a, ha, rfl, hall⟩ := hrel
    by_cases hlt : a < n
    · have hlt' : (a : Int) < m.n := by have := HNN.out; omega
      go_wp2_with fail
      go_loop [13] (fun i => ∃ b : Nat, b ≤ n ∧ i = .int .i64 b ∧ Hid (∀ y, y < b → D a y ≤ mm)) (fun i => n - (intOf i).toNat)
      case atStart => exact ⟨0, Nat.zero_le _, rfl, Lib.hid (fun y h => absurd h (Nat.not_lt_zero _))⟩
      case round =>
        obtain ⟨b, hb1, rfl, hall2⟩ := hrel
        by_cases hlt2 : b < n
        · have hlt2' : (b : Int) < m.n := by have := HNN.out; omega
          have t1 := hT.row a hlt
          have t2 := hT.cell a b hlt hlt2
          by_cases h1 : D a b ≤ most
          · by_cases h2 : D a b < 1099511627776
            · have HR := Lib.hid ((HMM.out _).1 ⟨h1, h2⟩)
              go_wp2
              go_round
              case rel =>
                refine ⟨b + 1, by omega, by go_num, Lib.hid (fun y hy => ?_)⟩
                rcases Nat.lt_or_ge y b with h' | h'
                · exact hall2.out y h'
                · obtain rfl : y = b := by omega
                  exact HR.out
              case measure => simp [intOf]; omega
            · have HR := Lib.hid (fun h => h2 ((HMM.out (D a b)).2 h).2)
              go_wp2
              go_ret
              exact ⟨ret_bool (by rw [HE.out]; exact (all2_no hlt hlt2 HR.out).symm), hBz⟩
          · have HR := Lib.hid (fun h => h1 ((HMM.out (D a b)).2 h).1)
            go_wp2
            go_ret
            exact ⟨ret_bool (by rw [HE.out]; exact (all2_no hlt hlt2 HR.out).symm), hBz⟩
        · obtain rfl : b = n := by omega
          have hge : ¬ (b : Int) < m.n := by have := HNN.out; omega
          go_wp2
          go_round
          case rel =>
            refine ⟨a + 1, by omega, by go_num, Lib.hid (fun x y hx hy => ?_)⟩
            rcases Nat.lt_or_ge x a with h' | h'
            · exact hall.out x y h' hy
            · obtain rfl : x = a := by omega
              exact hall2.out y hy
          case measure => simp [intOf]; omega
    · obtain rfl : a = n := by omega
      have hge : ¬ (a : Int) < m.n := by have := HNN.out; omega
      go_wp2
      go_ret
      exact ⟨ret_bool (by rw [HE.out]; exact (all2_yes hall.out).symm), hBz⟩
end Go.Proofs.Ytjdldmecjhddnaa
