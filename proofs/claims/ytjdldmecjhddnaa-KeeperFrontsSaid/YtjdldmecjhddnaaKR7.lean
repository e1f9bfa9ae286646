/- The contracts of the reference's Best, Together, Tree. -/
import Derived.Test.YtjdldmecjhddnaaKR6
namespace Go.Proofs.Ytjdldmecjhddnaa
open Go.RowKit
set_option linter.unusedVariables false
set_option linter.unusedSimpArgs false

theorem ask_tree (m : Mk) : askE m [] [] [0] = chkE m := by
  unfold askE chkE
  split
  · rw [if_pos (right_nil _), if_pos (by rfl), if_pos (by decide)]
  · rfl
theorem foundF_eq {e : Int} (h : e = 0) (r : Option Nat) : foundF e r = (chL r, chB r, 0) := by
  cases r with
  | none => exact found_none h
  | some s => exact found_some h
theorem okS_iff {x : Int} (h : okS x = true) : 0 ≤ x ∧ x ≤ 16777216 := by simpa [okS] using h

set_option maxHeartbeats 4000000 in
set_option maxRecDepth 100000 in
theorem r_Best (m : Mk) (mv : Value) (a b width : Int) (w : World) (hm : MkRd w m mv) :
    Calls Try.prog 23 #[mv, .int .i64 a, .int .i64 b, .int .i64 width] w fun e w' => ∃ v, e = .returned (.tuple #[v, .bool (bestF m a b width).2.1, .int .i64 (bestF m a b width).2.2]) ∧ OwnI w' w.heap.size v (bestF m a b width).1 ∧ Below w.heap.size w w' := by
  have HM := Lib.hid hm
  obtain ⟨ka, kc, oa, oc, rfl, _⟩ := hm
  have hB0 : Below w.heap.size w ((w.alloc (.cells #[.int .i64 m.n, .slice ka m.ks.length kc, .slice oa m.os.length oc] 24)).alloc (.cells #[.int .i64 a, .int .i64 b] 3)) := bal (bal (Below.refl _ _) _) _
  have hcalls := Lib.hid (r_ready m _ [] [a, b] width none (some ⟨w.heap.size + 1, 0, none⟩) 0 2 0 2 _ (HM.out.below hB0) rfl rfl Rd.nil (by simpa using rdI_new (w.alloc (.cells #[.int .i64 m.n, .slice ka m.ks.length kc, .slice oa m.os.length oc] 24)) [a, b] 3 : RdI _ (some ⟨w.heap.size + 1, 0, none⟩) [a, b]) (by decide) (by decide))
  have HM0 := Lib.hid (cal (show (w.alloc (.cells #[.int .i64 m.n, .slice ka m.ks.length kc, .slice oa m.os.length oc] 24)).cell? ⟨w.heap.size, 0, none⟩ = some (.int .i64 m.n) from by simp) (.cells #[.int .i64 a, .int .i64 b] 3))
  have HM1 := Lib.hid (cal (show (w.alloc (.cells #[.int .i64 m.n, .slice ka m.ks.length kc, .slice oa m.os.length oc] 24)).cell? ⟨w.heap.size, 1, none⟩ = some (.slice ka m.ks.length kc) from by simp) (.cells #[.int .i64 a, .int .i64 b] 3))
  have HM2 := Lib.hid (cal (show (w.alloc (.cells #[.int .i64 m.n, .slice ka m.ks.length kc, .slice oa m.os.length oc] 24)).cell? ⟨w.heap.size, 2, none⟩ = some (.slice oa m.os.length oc) from by simp) (.cells #[.int .i64 a, .int .i64 b] 3))
  by_cases he : askE m [] [a, b] [width] ≠ 0
  · have HF := Lib.hid (show bestF m a b width = ([], false, askE m [] [a, b] [width]) from found_no he)
    have hne : (askE m [] [a, b] [width] != 0) = true := by rw [bne_iff_ne]; exact he
    have HE := Lib.hid he
    clear he
    go_enter Try.func23, Try.ntmps23
    go_wp2_with fail
    refine hcalls.out.mono ?_
    rintro e w1 ⟨rfl, hb⟩
    have hB := bthen hB0 hb
    have m0 := below_cell hb HM0.out
    have m1 := below_cell hb HM1.out
    have m2 := below_cell hb HM2.out
    clear hcalls HM0 HM1 HM2 hB0 hb
    clear m0 m1 m2
    go_wp2
    go_ret3
    rw [HF.out]
    exact ⟨_, rfl, World.ownsRow_nil _ _ _ _, hB⟩
  · have he0 : askE m [] [a, b] [width] = 0 := Decidable.of_not_not he
    have HE := Lib.hid he0
    clear he
    obtain ⟨hok, hright, hcl, hsz⟩ := ask_0 he0
    have HOK := Lib.hid hok
    have ho12 := (okM hok).o12
    have hca := List.all_eq_true.1 hcl a (by simp)
    have hcb := List.all_eq_true.1 hcl b (by simp)
    simp only [okC, Bool.and_eq_true, decide_eq_true_eq] at hca hcb
    obtain ⟨a0, a1⟩ := hca
    obtain ⟨b0, b1⟩ := hcb
    clear hcl
    have hwd := okS_iff (by simpa using hsz)
    clear hsz hright hok
    obtain ⟨x, rfl⟩ := Int.eq_ofNat_of_zero_le a0
    obtain ⟨y, rfl⟩ := Int.eq_ofNat_of_zero_le b0
    have HF := Lib.hid (show bestF m x y width = (chL (leastS m.os (fun s => decide (wdS m s x y ≤ width))), chB (leastS m.os (fun s => decide (wdS m s x y ≤ width))), 0) from foundF_eq he0 _)
    clear he0
    go_enter Try.func23, Try.ntmps23
    go_wp2_with fail
    refine hcalls.out.mono ?_
    rintro e w1 ⟨rfl, hb⟩
    rw [HE.out]
    have hB := bthen hB0 hb
    have m0 := below_cell hb HM0.out
    have m1 := below_cell hb HM1.out
    have m2 := below_cell hb HM2.out
    clear hcalls HM0 HM1 HM2 hB0 hb
    go_wp2_with fail
    refine (r_least m _ x y width (fun s => decide (wdS m s x y ≤ width)) _ (by exact HM.out.below hB) HOK.out (fun W k la lc hW hk hr => (r_reaches m _ (bits 12 k) la _ lc x y width width W (HM.out.below (hB.trans (hW.mono hB.size))) rfl hr HOK.out (bits_mem hk) (bits_len 12 k) a1 b1 (fun z => by omega)).mono (fun _ _ h => h))).mono ?_
    rintro e w2 ⟨v, rfl, hown, hb1⟩
    go_wp2
    go_ret3
    rw [HF.out]
    exact ⟨v, rfl, hown.mono_base hB.size, bthen hB hb1⟩

set_option maxHeartbeats 4000000 in
set_option maxRecDepth 100000 in
theorem r_Together (m : Mk) (mv : Value) (width : Int) (w : World) (hm : MkRd w m mv) :
    Calls Try.prog 25 #[mv, .int .i64 width] w fun e w' => ∃ v, e = .returned (.tuple #[v, .bool (togF m width).2.1, .int .i64 (togF m width).2.2]) ∧ OwnI w' w.heap.size v (togF m width).1 ∧ Below w.heap.size w w' := by
  have HM := Lib.hid hm
  obtain ⟨ka, kc, oa, oc, rfl, _⟩ := hm
  have hB0 : Below w.heap.size w (w.alloc (.cells #[.int .i64 m.n, .slice ka m.ks.length kc, .slice oa m.os.length oc] 24)) := bal (Below.refl _ _) _
  have hcalls := Lib.hid (r_ready m _ [] [] width none none 0 0 0 0 _ (HM.out.below hB0) rfl rfl Rd.nil Rd.nil (by decide) (by decide))
  have HM0 := Lib.hid (show (w.alloc (.cells #[.int .i64 m.n, .slice ka m.ks.length kc, .slice oa m.os.length oc] 24)).cell? ⟨w.heap.size, 0, none⟩ = some (.int .i64 m.n) from by simp)
  have HM1 := Lib.hid (show (w.alloc (.cells #[.int .i64 m.n, .slice ka m.ks.length kc, .slice oa m.os.length oc] 24)).cell? ⟨w.heap.size, 1, none⟩ = some (.slice ka m.ks.length kc) from by simp)
  have HM2 := Lib.hid (show (w.alloc (.cells #[.int .i64 m.n, .slice ka m.ks.length kc, .slice oa m.os.length oc] 24)).cell? ⟨w.heap.size, 2, none⟩ = some (.slice oa m.os.length oc) from by simp)
  by_cases he : askE m [] [] [width] ≠ 0
  · have HF := Lib.hid (show togF m width = ([], false, askE m [] [] [width]) from found_no he)
    have hne : (askE m [] [] [width] != 0) = true := by rw [bne_iff_ne]; exact he
    have HE := Lib.hid he
    clear he
    go_enter Try.func25, Try.ntmps25
    go_wp2_with fail
    refine hcalls.out.mono ?_
    rintro e w1 ⟨rfl, hb⟩
    have hB := bthen hB0 hb
    have m0 := below_cell hb HM0.out
    have m1 := below_cell hb HM1.out
    have m2 := below_cell hb HM2.out
    clear hcalls HM0 HM1 HM2 hB0 hb
    clear m0 m1 m2
    go_wp2
    go_ret3
    rw [HF.out]
    exact ⟨_, rfl, World.ownsRow_nil _ _ _ _, hB⟩
  · have he0 : askE m [] [] [width] = 0 := Decidable.of_not_not he
    have HE := Lib.hid he0
    clear he
    obtain ⟨hok, hright, hcl, hsz⟩ := ask_0 he0
    have HOK := Lib.hid hok
    have ho12 := (okM hok).o12
    clear hcl
    have hwd := okS_iff (by simpa using hsz)
    clear hsz hright hok
    have HF := Lib.hid (show togF m width = (chL (leastS m.os (fun s => allS m s width)), chB (leastS m.os (fun s => allS m s width)), 0) from foundF_eq he0 _)
    clear he0
    go_enter Try.func25, Try.ntmps25
    go_wp2_with fail
    refine hcalls.out.mono ?_
    rintro e w1 ⟨rfl, hb⟩
    rw [HE.out]
    have hB := bthen hB0 hb
    have m0 := below_cell hb HM0.out
    have m1 := below_cell hb HM1.out
    have m2 := below_cell hb HM2.out
    clear hcalls HM0 HM1 HM2 hB0 hb
    go_wp2_with fail
    refine (r_least m _ (-1) (-1) width (fun s => allS m s width) _ (by exact HM.out.below hB) HOK.out (fun W k la lc hW hk hr => (r_reachesAll m _ (bits 12 k) la _ lc (-1) width width W (HM.out.below (hB.trans (hW.mono hB.size))) rfl hr HOK.out (bits_mem hk) (bits_len 12 k) (fun z => by omega)).mono (fun _ _ h => h))).mono ?_
    rintro e w2 ⟨v, rfl, hown, hb1⟩
    go_wp2
    go_ret3
    rw [HF.out]
    exact ⟨v, rfl, hown.mono_base hB.size, bthen hB hb1⟩

set_option maxHeartbeats 4000000 in
set_option maxRecDepth 100000 in
theorem r_Tree (m : Mk) (mv : Value) (w : World) (hm : MkRd w m mv) :
    Calls Try.prog 27 #[mv] w fun e w' => ∃ v, e = .returned (.tuple #[v, .bool (treeF m).2.1, .int .i64 (treeF m).2.2]) ∧ OwnI w' w.heap.size v (treeF m).1 ∧ Below w.heap.size w w' := by
  have HM := Lib.hid hm
  obtain ⟨ka, kc, oa, oc, rfl, _⟩ := hm
  have hB0 : Below w.heap.size w (w.alloc (.cells #[.int .i64 m.n, .slice ka m.ks.length kc, .slice oa m.os.length oc] 24)) := bal (Below.refl _ _) _
  have hcalls := Lib.hid (r_ready m _ [] [] 0 none none 0 0 0 0 _ (HM.out.below hB0) rfl rfl Rd.nil Rd.nil (by decide) (by decide))
  have HM0 := Lib.hid (show (w.alloc (.cells #[.int .i64 m.n, .slice ka m.ks.length kc, .slice oa m.os.length oc] 24)).cell? ⟨w.heap.size, 0, none⟩ = some (.int .i64 m.n) from by simp)
  have HM1 := Lib.hid (show (w.alloc (.cells #[.int .i64 m.n, .slice ka m.ks.length kc, .slice oa m.os.length oc] 24)).cell? ⟨w.heap.size, 1, none⟩ = some (.slice ka m.ks.length kc) from by simp)
  have HM2 := Lib.hid (show (w.alloc (.cells #[.int .i64 m.n, .slice ka m.ks.length kc, .slice oa m.os.length oc] 24)).cell? ⟨w.heap.size, 2, none⟩ = some (.slice oa m.os.length oc) from by simp)
  by_cases he : askE m [] [] [0] ≠ 0
  · have HF := Lib.hid (show treeF m = ([], false, askE m [] [] [0]) from (by unfold treeF; rw [← ask_tree]; exact found_no he))
    have hne : (askE m [] [] [0] != 0) = true := by rw [bne_iff_ne]; exact he
    have HE := Lib.hid he
    clear he
    go_enter Try.func27, Try.ntmps27
    go_wp2_with fail
    refine hcalls.out.mono ?_
    rintro e w1 ⟨rfl, hb⟩
    have hB := bthen hB0 hb
    have m0 := below_cell hb HM0.out
    have m1 := below_cell hb HM1.out
    have m2 := below_cell hb HM2.out
    clear hcalls HM0 HM1 HM2 hB0 hb
    clear m0 m1 m2
    go_wp2
    go_ret3
    rw [HF.out]
    exact ⟨_, rfl, World.ownsRow_nil _ _ _ _, hB⟩
  · have he0 : askE m [] [] [0] = 0 := Decidable.of_not_not he
    have HE := Lib.hid he0
    clear he
    obtain ⟨hok, hright, hcl, hsz⟩ := ask_0 he0
    have HOK := Lib.hid hok
    have ho12 := (okM hok).o12
    clear hcl
    clear hsz hright hok
    have HF := Lib.hid (show treeF m = (chL (leastS m.os (fun s => allS m s 1099511627775)), chB (leastS m.os (fun s => allS m s 1099511627775)), 0) from foundF_eq (by rw [← ask_tree]; exact he0) _)
    clear he0
    go_enter Try.func27, Try.ntmps27
    go_wp2_with fail
    refine hcalls.out.mono ?_
    rintro e w1 ⟨rfl, hb⟩
    rw [HE.out]
    have hB := bthen hB0 hb
    have m0 := below_cell hb HM0.out
    have m1 := below_cell hb HM1.out
    have m2 := below_cell hb HM2.out
    clear hcalls HM0 HM1 HM2 hB0 hb
    go_wp2_with fail
    refine (r_least m _ (-1) (-1) 1099511627776 (fun s => allS m s 1099511627775) _ (by exact HM.out.below hB) HOK.out (fun W k la lc hW hk hr => (r_reachesAll m _ (bits 12 k) la _ lc (-1) 1099511627776 1099511627775 W (HM.out.below (hB.trans (hW.mono hB.size))) rfl hr HOK.out (bits_mem hk) (bits_len 12 k) (fun z => by omega)).mono (fun _ _ h => h))).mono ?_
    rintro e w2 ⟨v, rfl, hown, hb1⟩
    go_wp2
    go_ret3
    rw [HF.out]
    exact ⟨v, rfl, hown.mono_base hB.size, bthen hB hb1⟩

end Go.Proofs.Ytjdldmecjhddnaa
