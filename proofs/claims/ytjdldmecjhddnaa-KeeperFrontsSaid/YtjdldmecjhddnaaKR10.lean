/- The contracts of the reference's Width, Cost, Widths. -/
import Derived.Test.YtjdldmecjhddnaaKR7
import Derived.Test.YtjdldmecjhddnaaKRows
namespace Go.Proofs.Ytjdldmecjhddnaa
open Go.RowKit
set_option linter.unusedVariables false
set_option linter.unusedSimpArgs false

theorem ask_zero (m : Mk) (l cl : List Int) : askE m l cl [0] = askE m l cl [] := by
  unfold askE
  rw [show ([0] : List Int).all okS = true from by decide, show ([] : List Int).all okS = true from rfl]
set_option maxHeartbeats 4000000 in
set_option maxRecDepth 100000 in
theorem r_Width (m : Mk) (mv : Value) (l : List Int) (la : Option Addr) (lc : Nat) (a b : Int) (w : World) (hm : MkRd w m mv) (hl : RdI w la l) (hll : l.length ≤ 140737488355328) :
    Calls Try.prog 53 #[mv, .slice la l.length lc, .int .i64 a, .int .i64 b] w fun e w' => e = .returned (.tuple #[.int .i64 (widthF m l a b).1, .bool (widthF m l a b).2.1, .int .i64 (widthF m l a b).2.2]) ∧ Below w.heap.size w w' := by
  have HM := Lib.hid hm
  obtain ⟨ka, kc, oa, oc, rfl, _⟩ := hm
  have hB0 : Below w.heap.size w ((w.alloc (.cells #[.int .i64 m.n, .slice ka m.ks.length kc, .slice oa m.os.length oc] 24)).alloc (.cells #[.int .i64 a, .int .i64 b] 3)) := bal (bal (Below.refl _ _) _) _
  have hcalls := r_ready m _ l [a, b] 0 la (some ⟨w.heap.size + 1, 0, none⟩) l.length 2 lc 2 _ (HM.out.below hB0) rfl rfl (hl.below hB0) (by simpa using rdI_new (w.alloc (.cells #[.int .i64 m.n, .slice ka m.ks.length kc, .slice oa m.os.length oc] 24)) [a, b] 3 : RdI _ (some ⟨w.heap.size + 1, 0, none⟩) [a, b]) hll (by decide)
  rw [ask_zero] at hcalls
  replace hcalls := Lib.hid hcalls
  have HM0 := Lib.hid (cal (show (w.alloc (.cells #[.int .i64 m.n, .slice ka m.ks.length kc, .slice oa m.os.length oc] 24)).cell? ⟨w.heap.size, 0, none⟩ = some (.int .i64 m.n) from by simp) (.cells #[.int .i64 a, .int .i64 b] 3))
  have HM1 := Lib.hid (cal (show (w.alloc (.cells #[.int .i64 m.n, .slice ka m.ks.length kc, .slice oa m.os.length oc] 24)).cell? ⟨w.heap.size, 1, none⟩ = some (.slice ka m.ks.length kc) from by simp) (.cells #[.int .i64 a, .int .i64 b] 3))
  have HM2 := Lib.hid (cal (show (w.alloc (.cells #[.int .i64 m.n, .slice ka m.ks.length kc, .slice oa m.os.length oc] 24)).cell? ⟨w.heap.size, 2, none⟩ = some (.slice oa m.os.length oc) from by simp) (.cells #[.int .i64 a, .int .i64 b] 3))
  by_cases he : askE m l [a, b] [] ≠ 0
  · have HF := Lib.hid (show widthF m l a b = (0, false, askE m l [a, b] []) from if_pos he)
    have hne : (askE m l [a, b] [] != 0) = true := by rw [bne_iff_ne]; exact he
    have HE := Lib.hid he
    clear he
    go_enter Try.func53, Try.ntmps53
    go_wp2_with fail
    refine hcalls.out.mono ?_
    rintro e w1 ⟨rfl, hb⟩
    have hB := bthen hB0 hb
    have m0 := below_cell hb HM0.out
    have m1 := below_cell hb HM1.out
    have m2 := below_cell hb HM2.out
    clear hcalls HM0 HM1 HM2 hB0 hb
    clear m0 m1 m2
    go_wp2
    go_ret3
    rw [HF.out]
    exact ⟨rfl, hB⟩
  · have he0 : askE m l [a, b] [] = 0 := Decidable.of_not_not he
    have HE := Lib.hid he0
    clear he
    obtain ⟨hok, hright, hcl, _⟩ := ask_0 he0
    have HOK := Lib.hid hok
    have h12 := right_len hright (okM hok).o12
    have HBD := Lib.hid (right_bd hright)
    have HRL := Lib.hid hl
    have hca := List.all_eq_true.1 hcl a (by simp)
    have hcb := List.all_eq_true.1 hcl b (by simp)
    simp only [okC, Bool.and_eq_true, decide_eq_true_eq] at hca hcb
    obtain ⟨a0, a1⟩ := hca
    obtain ⟨b0, b1⟩ := hcb
    obtain ⟨x, rfl⟩ := Int.eq_ofNat_of_zero_le a0
    obtain ⟨y, rfl⟩ := Int.eq_ofNat_of_zero_le b0
    obtain ⟨D, hD⟩ : ∃ D, Hid (D = wdL m l x y) := ⟨_, Lib.hid rfl⟩
    clear hcl hright hok hl
    by_cases hd : 1099511627776 ≤ D
    · have HF := Lib.hid (show widthF m l x y = (0, false, 0) from by unfold widthF; rw [if_neg (by rw [HE.out]; simp), ← hD.out]; exact if_pos hd)
      clear he0
      go_enter Try.func53, Try.ntmps53
      go_wp2_with fail
      refine hcalls.out.mono ?_
      rintro e w1 ⟨rfl, hb⟩
      rw [HE.out]
      have hB := bthen hB0 hb
      have m0 := below_cell hb HM0.out
      have m1 := below_cell hb HM1.out
      have m2 := below_cell hb HM2.out
      clear hcalls HM0 HM1 HM2 hB0 hb
      go_wp2_with fail
      refine (r_width m _ l _ _ _ x y _ (by exact HM.out.below hB) rfl (by exact HRL.out.below hB) HOK.out HBD.out h12 a1 b1).mono ?_
      rintro e w2 ⟨rfl, hb1⟩
      rw [← hD.out]
      have hBz := bthen hB hb1
      clear hb1 hB m0 m1 m2
      go_wp2
      go_ret3
      rw [HF.out]
      exact ⟨rfl, hBz⟩
    · have HF := Lib.hid (show widthF m l x y = (D, true, 0) from by unfold widthF; rw [if_neg (by rw [HE.out]; simp), ← hD.out]; exact if_neg hd)
      clear he0
      go_enter Try.func53, Try.ntmps53
      go_wp2_with fail
      refine hcalls.out.mono ?_
      rintro e w1 ⟨rfl, hb⟩
      rw [HE.out]
      have hB := bthen hB0 hb
      have m0 := below_cell hb HM0.out
      have m1 := below_cell hb HM1.out
      have m2 := below_cell hb HM2.out
      clear hcalls HM0 HM1 HM2 hB0 hb
      go_wp2_with fail
      refine (r_width m _ l _ _ _ x y _ (by exact HM.out.below hB) rfl (by exact HRL.out.below hB) HOK.out HBD.out h12 a1 b1).mono ?_
      rintro e w2 ⟨rfl, hb1⟩
      rw [← hD.out]
      have hBz := bthen hB hb1
      clear hb1 hB m0 m1 m2
      go_wp2
      go_ret3
      rw [HF.out]
      exact ⟨rfl, hBz⟩

set_option maxHeartbeats 4000000 in
set_option maxRecDepth 100000 in
theorem r_Cost (m : Mk) (mv : Value) (l : List Int) (la : Option Addr) (lc : Nat) (w : World) (hm : MkRd w m mv) (hl : RdI w la l) (hll : l.length ≤ 140737488355328) :
    Calls Try.prog 54 #[mv, .slice la l.length lc] w fun e w' => e = .returned (.tuple #[.int .i64 (costF m l).1, .int .i64 (costF m l).2]) ∧ Below w.heap.size w w' := by
  have HM := Lib.hid hm
  obtain ⟨ka, kc, oa, oc, rfl, _⟩ := hm
  have hB0 : Below w.heap.size w (w.alloc (.cells #[.int .i64 m.n, .slice ka m.ks.length kc, .slice oa m.os.length oc] 24)) := bal (Below.refl _ _) _
  have hcalls := r_ready m _ l [] 0 la none l.length 0 lc 0 _ (HM.out.below hB0) rfl rfl (hl.below hB0) Rd.nil hll (by decide)
  rw [ask_zero] at hcalls
  replace hcalls := Lib.hid hcalls
  have HM0 := Lib.hid (show (w.alloc (.cells #[.int .i64 m.n, .slice ka m.ks.length kc, .slice oa m.os.length oc] 24)).cell? ⟨w.heap.size, 0, none⟩ = some (.int .i64 m.n) from by simp)
  have HM1 := Lib.hid (show (w.alloc (.cells #[.int .i64 m.n, .slice ka m.ks.length kc, .slice oa m.os.length oc] 24)).cell? ⟨w.heap.size, 1, none⟩ = some (.slice ka m.ks.length kc) from by simp)
  have HM2 := Lib.hid (show (w.alloc (.cells #[.int .i64 m.n, .slice ka m.ks.length kc, .slice oa m.os.length oc] 24)).cell? ⟨w.heap.size, 2, none⟩ = some (.slice oa m.os.length oc) from by simp)
  by_cases he : askE m l [] [] ≠ 0
  · have HF := Lib.hid (show costF m l = (0, askE m l [] []) from if_pos he)
    have hne : (askE m l [] [] != 0) = true := by rw [bne_iff_ne]; exact he
    have HE := Lib.hid he
    clear he
    go_enter Try.func54, Try.ntmps54
    go_wp2_with fail
    refine hcalls.out.mono ?_
    rintro e w1 ⟨rfl, hb⟩
    have hB := bthen hB0 hb
    have m0 := below_cell hb HM0.out
    have m1 := below_cell hb HM1.out
    have m2 := below_cell hb HM2.out
    clear hcalls HM0 HM1 HM2 hB0 hb
    clear m0 m1 m2
    go_wp2
    go_ret2
    rw [HF.out]
    exact ⟨rfl, hB⟩
  · have he0 : askE m l [] [] = 0 := Decidable.of_not_not he
    have HE := Lib.hid he0
    clear he
    obtain ⟨hok, hright, hcl, _⟩ := ask_0 he0
    have HOK := Lib.hid hok
    have h12 := right_len hright (okM hok).o12
    have HBD := Lib.hid (right_bd hright)
    have HRL := Lib.hid hl
    have HF := Lib.hid (show costF m l = (costL m.os l, 0) from by unfold costF; rw [if_neg (by rw [he0]; simp)])
    clear he0 hcl hright hok hl
    go_enter Try.func54, Try.ntmps54
    go_wp2_with fail
    refine hcalls.out.mono ?_
    rintro e w1 ⟨rfl, hb⟩
    rw [HE.out]
    have hB := bthen hB0 hb
    have m0 := below_cell hb HM0.out
    have m1 := below_cell hb HM1.out
    have m2 := below_cell hb HM2.out
    clear hcalls HM0 HM1 HM2 hB0 hb
    go_wp2_with fail
    refine (r_cost m _ l _ _ _ _ (by exact HM.out.below hB) rfl (by exact HRL.out.below hB) HOK.out HBD.out h12).mono ?_
    rintro e w2 ⟨rfl, hb1⟩
    have hBz := bthen hB hb1
    clear hb1 hB m0 m1 m2
    go_wp2
    go_ret2
    rw [HF.out]
    exact ⟨rfl, hBz⟩

/-- Which entries are unk already: all rows above a, and of the row a those left of b. -/
def unkT (d : Nat → Nat → Int) (a b : Nat) : Nat → Nat → Int := fun i j => if i < a ∨ (i = a ∧ j < b) then unk (d i j) else d i j
theorem unkT_next {n : Nat} {d : Nat → Nat → Int} {a b : Nat} (ha : a < n) (hb : b < n) (i j : Nat) (hi : i < n) (hj : j < n) : (if 1099511627776 ≤ d a b then upd (unkT d a b) a b (-1) else unkT d a b) i j = unkT d a (b + 1) i j := by
  by_cases h : 1099511627776 ≤ d a b
  · rw [if_pos h]
    unfold upd unkT unk
    by_cases e : i = a ∧ j = b
    · obtain ⟨rfl, rfl⟩ := e; rw [if_pos ⟨rfl, rfl⟩, if_pos (by omega), if_pos h]
    · rw [if_neg e]
      by_cases e2 : i < a ∨ (i = a ∧ j < b)
      · rw [if_pos e2, if_pos (show i < a ∨ (i = a ∧ j < b + 1) by omega)]
      · rw [if_neg e2, if_neg (show ¬ (i < a ∨ (i = a ∧ j < b + 1)) by omega)]
  · rw [if_neg h]
    unfold unkT unk
    by_cases e : i = a ∧ j = b
    · obtain ⟨rfl, rfl⟩ := e; rw [if_neg (by omega), if_pos (by omega), if_neg h]
    · by_cases e2 : i < a ∨ (i = a ∧ j < b)
      · rw [if_pos e2, if_pos (show i < a ∨ (i = a ∧ j < b + 1) by omega)]
      · rw [if_neg e2, if_neg (show ¬ (i < a ∨ (i = a ∧ j < b + 1)) by omega)]
theorem unkT_row {n : Nat} {d : Nat → Nat → Int} {a : Nat} (i j : Nat) (hi : i < n) (hj : j < n) : unkT d a n i j = unkT d (a + 1) 0 i j := by
  unfold unkT
  by_cases e : i < a ∨ (i = a ∧ j < n)
  · rw [if_pos e, if_pos (by omega)]
  · rw [if_neg e, if_neg (by omega)]
set_option maxHeartbeats 4000000 in
set_option maxRecDepth 100000 in
theorem r_Widths (m : Mk) (mv : Value) (l : List Int) (la : Option Addr) (lc : Nat) (w : World) (hm : MkRd w m mv) (hl : RdI w la l) (hll : l.length ≤ 140737488355328) :
    Calls Try.prog 56 #[mv, .slice la l.length lc] w fun e w' => ∃ va vc, e = .returned (.tuple #[.slice va (widthsF m l).1.length vc, .int .i64 (widthsF m l).2]) ∧ RdLI w' va (widthsF m l).1 ∧ Below w.heap.size w w' := by
  have HM := Lib.hid hm
  obtain ⟨ka, kc, oa, oc, rfl, _⟩ := hm
  have hB0 : Below w.heap.size w (w.alloc (.cells #[.int .i64 m.n, .slice ka m.ks.length kc, .slice oa m.os.length oc] 24)) := bal (Below.refl _ _) _
  have hcalls := r_ready m _ l [] 0 la none l.length 0 lc 0 _ (HM.out.below hB0) rfl rfl (hl.below hB0) Rd.nil hll (by decide)
  rw [ask_zero] at hcalls
  replace hcalls := Lib.hid hcalls
  have HM0 := Lib.hid (show (w.alloc (.cells #[.int .i64 m.n, .slice ka m.ks.length kc, .slice oa m.os.length oc] 24)).cell? ⟨w.heap.size, 0, none⟩ = some (.int .i64 m.n) from by simp)
  have HM1 := Lib.hid (show (w.alloc (.cells #[.int .i64 m.n, .slice ka m.ks.length kc, .slice oa m.os.length oc] 24)).cell? ⟨w.heap.size, 1, none⟩ = some (.slice ka m.ks.length kc) from by simp)
  have HM2 := Lib.hid (show (w.alloc (.cells #[.int .i64 m.n, .slice ka m.ks.length kc, .slice oa m.os.length oc] 24)).cell? ⟨w.heap.size, 2, none⟩ = some (.slice oa m.os.length oc) from by simp)
  by_cases he : askE m l [] [] ≠ 0
  · have HF := Lib.hid (show widthsF m l = ([], askE m l [] []) from if_pos he)
    have hne : (askE m l [] [] != 0) = true := by rw [bne_iff_ne]; exact he
    have HE := Lib.hid he
    clear he
    go_enter Try.func56, Try.ntmps56
    go_wp2_with fail
    refine hcalls.out.mono ?_
    rintro e w1 ⟨rfl, hb⟩
    have hB := bthen hB0 hb
    have m0 := below_cell hb HM0.out
    have m1 := below_cell hb HM1.out
    have m2 := below_cell hb HM2.out
    clear hcalls HM0 HM1 HM2 hB0 hb
    clear m0 m1 m2
    go_wp2
    go_ret2
    rw [HF.out]
    exact ⟨_, _, rfl, RdLI.nil, hB⟩
  · have he0 : askE m l [] [] = 0 := Decidable.of_not_not he
    have HE := Lib.hid he0
    clear he
    obtain ⟨hok, hright, hcl, _⟩ := ask_0 he0
    have HOK := Lib.hid hok
    have h12 := right_len hright (okM hok).o12
    have HBD := Lib.hid (right_bd hright)
    have HRL := Lib.hid hl
    have n2 := (okM hok).n2
    have n8 := (okM hok).n8
    have HWD := Lib.hid (comps_wd hok HBD.out h12)
    obtain ⟨D, hD⟩ : ∃ D, Hid (D = wd m.n.toNat (comps m l)) := ⟨_, Lib.hid rfl⟩
    have HF := Lib.hid (show widthsF m l = (tabRows m.n.toNat (fun a b => unk (D a b)), 0) from by unfold widthsF; rw [if_neg (by rw [he0]; simp), hD.out])
    rw [← hD.out] at HWD
    obtain ⟨n, hn⟩ : ∃ n : Nat, m.n = n := ⟨m.n.toNat, by omega⟩
    have hnn : m.n.toNat = n := by omega
    rw [hnn] at HWD HF
    rw [hn] at n2 n8
    have HN := Lib.hid hn
    clear he0 hcl hright hok hl hn hnn
    go_enter Try.func56, Try.ntmps56
    go_wp2_with fail
    refine hcalls.out.mono ?_
    rintro e w1 ⟨rfl, hb⟩
    rw [HE.out]
    have hB := bthen hB0 hb
    have m0 := below_cell hb HM0.out
    have m1 := below_cell hb HM1.out
    have m2 := below_cell hb HM2.out
    clear hcalls HM0 HM1 HM2 hB0 hb
    go_wp2_with fail
    refine wp_region_held_drew (S := (fun w' => w'.cell? ⟨w.heap.size, 0, none⟩ = some (.int .i64 m.n) ∧ w'.cell? ⟨w.heap.size, 1, none⟩ = some (.slice ka m.ks.length kc) ∧ w'.cell? ⟨w.heap.size, 2, none⟩ = some (.slice oa m.os.length oc))) (by kernel_rfl) ⟨cdw m0, cdw m1, cdw m2⟩ (fun hHeld => ?_)
    refine wpAnyH_take (i := 0) (v := ?v0) rfl (by kernel_rfl) (by kernel_rfl) (by kernel_rfl) (fun _ _ _ h => h) (Or.inl ⟨by rfl, ?y0⟩) hHeld ?r0
    case y0 => (intro wS hSw; (try dsimp only at hSw); go_split_ands; go_simp <;> with_reducible rfl)
    (try simp only [Act.put, List.setIfInBounds_toArray, List.set_cons_zero, List.set_cons_succ])
    refine wpAnyH_take (i := 1) (v := ?v1) rfl (by kernel_rfl) (by kernel_rfl) (by kernel_rfl) (fun _ _ _ h => h) (Or.inl ⟨by rfl, ?y1⟩) hHeld ?r1
    case y1 => (intro wS hSw; (try dsimp only at hSw); go_split_ands; go_simp <;> with_reducible rfl)
    (try simp only [Act.put, List.setIfInBounds_toArray, List.set_cons_zero, List.set_cons_succ])
    refine wpAnyH_take (i := 2) (v := ?v2) rfl (by kernel_rfl) (by kernel_rfl) (by kernel_rfl) (fun _ _ _ h => h) (Or.inl ⟨by rfl, ?y2⟩) hHeld ?r2
    case y2 => (intro wS hSw; (try dsimp only at hSw); go_split_ands; go_simp <;> with_reducible rfl)
    (try simp only [Act.put, List.setIfInBounds_toArray, List.set_cons_zero, List.set_cons_succ])
    refine wpAnyH_take (i := 3) (v := ?v3) rfl (by kernel_rfl) (by kernel_rfl) (by kernel_rfl) (fun _ _ _ h => h) (Or.inl ⟨by rfl, ?y3⟩) hHeld ?r3
    case y3 => (intro wS hSw; (try dsimp only at hSw); go_split_ands; go_simp <;> with_reducible rfl)
    (try simp only [Act.put, List.setIfInBounds_toArray, List.set_cons_zero, List.set_cons_succ])
    refine wpAnyH_ready (rs := [4]) (by kernel_rfl) (by simp) ?_
    refine AllReadyH.cons (o := _) rfl (fun K hK => ?_) AllReadyH.nil
    go_simp
    refine (r_Comparisons m _ l _ _ _ _ (by exact HM.out.below hB.drew) rfl (by exact HRL.out.below hB.drew) HOK.out HBD.out h12).mono ?_
    rintro e w2 ⟨v2, rfl, hown, hb1⟩
    obtain ⟨c1, c2, hv2, hrd⟩ := own_rd (enc := encO) (k := 4) (fun _ => rfl) hown
    subst hv2
    clear hown
    refine hK.out _ _ ⟨below_cell hb1 (cdw m0), below_cell hb1 (cdw m1), below_cell hb1 (cdw m2)⟩ (fun hHeld => ?_)
    clear hK K
    (try simp only [Act.put, List.setIfInBounds_toArray, List.set_cons_zero, List.set_cons_succ])
    refine wpAnyH_ready (rs := [5]) (by kernel_rfl) (by simp) ?_
    refine AllReadyH.cons (o := _) rfl (fun K hK => ?_) AllReadyH.nil
    go_simp
    refine (HWD.out _ _ _ hrd).mono ?_
    rintro e w3 ⟨v3, rfl, ⟨g, cap, f, c, rfl, hT⟩, hb2⟩
    have hBz := hB.drew.trans ((bthen hb1 hb2).mono hB.size)
    refine hK.out _ _ ⟨below_cell hb2 (below_cell hb1 (cdw m0)), below_cell hb2 (below_cell hb1 (cdw m1)), below_cell hb2 (below_cell hb1 (cdw m2))⟩ (fun hHeld => ?_)
    clear hK K
    (try simp only [Act.put, List.setIfInBounds_toArray, List.set_cons_zero, List.set_cons_succ])
    refine wpAnyH_ready (rs := [6]) (by kernel_rfl) (by simp) ?_
    refine AllReadyH.cons (o := _) rfl (fun K hK => ?_) AllReadyH.nil
    go_simp
    refine hK.out _ _ hHeld (fun hHeld => ?_)
    clear hK K
    (try simp only [Act.put, List.setIfInBounds_toArray, List.set_cons_zero, List.set_cons_succ])
    refine wpAnyH_done (by kernel_rfl) ?_ _
    have hsz := Nat.lt_of_lt_of_le (World.block_lt_of_cell? _ _ (cdw m0)) hb1.size
    replace m0 := below_cell hb2 (below_cell hb1 (cdw m0))
    have HT := Lib.hid (hT.congr (e := unkT D 0 0) (fun i j _ _ => by simp [unkT]))
    have M0 := Lib.hid m0
    have HBZ := Lib.hid hBz
    have hg := hT.hg
    clear hT hb1 hb2 m0 m1 m2 hBz hB
    go_wp2_with fail
    go_loopw [8] (fun i wr => ∃ a : Nat, a ≤ n ∧ i = .int .i64 a ∧ TabF wr w2.heap.size g f c n (unkT D a 0) ∧ wr.cell? ⟨w.heap.size, 0, none⟩ = some (.int .i64 m.n) ∧ Below w.heap.size w wr) (fun i _ => n - (intOf i).toNat)
    case atStart => exact ⟨0, Nat.zero_le _, rfl, HT.out, M0.out, HBZ.out⟩
    case round =>
      clear HT M0 HBZ
      obtain ⟨a, ha, rfl, hT, m0, hB⟩ := hrel
      have HT := Lib.hid hT
      have HB := Lib.hid hB
      clear hT hB
      by_cases hlt : a < n
      · have hlt' : (a : Int) < m.n := by rw [HN.out]; omega
        have M0 := Lib.hid m0
        go_wp2_with fail
        clear m0
        go_loopw [9] (fun i wr => ∃ b : Nat, b ≤ n ∧ i = .int .i64 b ∧ TabF wr w2.heap.size g f c n (unkT D a b) ∧ wr.cell? ⟨w.heap.size, 0, none⟩ = some (.int .i64 m.n) ∧ Below w.heap.size w wr) (fun i _ => n - (intOf i).toNat)
        case atStart => exact ⟨0, Nat.zero_le _, rfl, HT.out, M0.out, HB.out⟩
        case round =>
          clear HT M0 HB
          obtain ⟨b, hb, rfl, hT, m0, hB⟩ := hrel
          by_cases hlt2 : b < n
          · have hlt2' : (b : Int) < m.n := by rw [HN.out]; omega
            have h1 := hT.row a hlt
            obtain ⟨X, hX⟩ : ∃ X, Hid (X = D a b) := ⟨_, Lib.hid rfl⟩
            have h2 := hT.cell a b hlt hlt2
            have h2' : unkT D a b a b = X := by unfold unkT; rw [if_neg (by omega), hX.out]
            rw [h2'] at h2
            have h5 := hT.free a b hlt hlt2
            have hf := (hT.hf a hlt).1
            clear h2'
            by_cases hd : 1099511627776 ≤ X
            · have HS := Lib.hid (hT.set hlt hlt2 (-1))
              have m0' := Lib.hid (show (wr.setCell ⟨f a, b, none⟩ (.int .i64 (-1))).cell? ⟨w.heap.size, 0, none⟩ = some (.int .i64 m.n) from by rw [World.cell?_setCell_other _ _ _ _ (by intro e; injection e with e1 e2; omega)]; exact m0)
              have HBS := Lib.hid (hB.setCell (p := ⟨f a, b, none⟩) (show w.heap.size ≤ f a by omega) (.int .i64 (-1)))
              have HU := Lib.hid (fun i j (hi : i < n) (hj : j < n) => unkT_next (d := D) hlt hlt2 i j hi hj)
              clear hT hB
              go_wp2
              go_roundw
              case rel =>
                refine ⟨b + 1, by omega, by go_num, HS.out.congr (fun i j hi hj => ?_), m0'.out, HBS.out⟩
                rw [← HU.out i j hi hj, if_pos (by rw [← hX.out]; exact hd)]
              case measure => simp [intOf]; omega
            · have HT := Lib.hid hT
              have HB := Lib.hid hB
              have HU := Lib.hid (fun i j (hi : i < n) (hj : j < n) => unkT_next (d := D) hlt hlt2 i j hi hj)
              have M0 := Lib.hid m0
              clear hT hB
              go_wp2
              go_roundw
              case rel =>
                refine ⟨b + 1, by omega, by go_num, HT.out.congr (fun i j hi hj => ?_), M0.out, HB.out⟩
                rw [← HU.out i j hi hj, if_neg (by rw [← hX.out]; exact hd)]
              case measure => simp [intOf]; omega
          · have hge2 : m.n ≤ (b : Int) := by rw [HN.out]; omega
            obtain rfl : b = n := by omega
            have HT := Lib.hid hT
            have HB := Lib.hid hB
            have M0 := Lib.hid m0
            clear hT hB
            go_wp2
            go_roundw
            case rel => exact ⟨a + 1, by omega, by go_num, HT.out.congr (fun i j hi hj => unkT_row i j hi hj), M0.out, HB.out⟩
            case measure => simp [intOf]; omega
      · have hge : m.n ≤ (a : Int) := by rw [HN.out]; omega
        obtain rfl : a = n := by omega
        have HR := Lib.hid (HT.out.congr (e := fun i j => unk (D i j)) (fun i j hi hj => by unfold unkT; rw [if_pos (by omega)])).rd
        go_wp2
        go_ret2
        rw [HF.out]
        first
          | refine ⟨some ⟨g, 0, none⟩, cap, ?_, HR.out, HB.out⟩
          | refine ⟨some ⟨g, 0, none⟩, ⟨cap, ?_⟩, HR.out, HB.out⟩
        show Ending.returned (.tuple #[.slice (some ⟨g, 0, none⟩) a cap, .int .i64 0]) = _
        rw [tabRows_len]

end Go.Proofs.Ytjdldmecjhddnaa
