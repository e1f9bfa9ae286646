/- The contracts of keeper.Best, Together, Tree. -/
import Derived.Test.YtjdldmecjhddnaaK8
namespace Go.Proofs.Ytjdldmecjhddnaa
open Go.RowKit
set_option linter.unusedVariables false
set_option linter.unusedSimpArgs false

abbrev OwnI (w : World) (base : Nat) (v : Value) (xs : List Int) : Prop := w.ownsRow base 3 1 v xs.length (xs.map (Value.int .i64))
/-- What a search hands back. -/
def foundF (e : Int) (r : Option Nat) : List Int × Bool × Int := if e ≠ 0 then ([], false, e) else match r with | none => ([], false, 0) | some s => (bits 12 s, true, 0)
def bestF (m : Mk) (a b width : Int) : List Int × Bool × Int := foundF (askE m [] [a, b] [width]) (leastS m.os (fun s => decide (wdS m s a b ≤ width)))
def togF (m : Mk) (width : Int) : List Int × Bool × Int := foundF (askE m [] [] [width]) (leastS m.os (fun s => allS m s width))
def treeF (m : Mk) : List Int × Bool × Int := foundF (chkE m) (leastS m.os (fun s => allS m s 1099511627775))
theorem found_no {e : Int} {r : Option Nat} (h : e ≠ 0) : foundF e r = ([], false, e) := if_pos h
theorem found_none {e : Int} (h : e = 0) : foundF e none = ([], false, 0) := by simp [foundF, h]
theorem found_some {e : Int} {s : Nat} (h : e = 0) : foundF e (some s) = (bits 12 s, true, 0) := by simp [foundF, h]
theorem askE_range (m : Mk) (l cl sz : List Int) : askE m l cl sz = 0 ∨ askE m l cl sz = 1 ∨ askE m l cl sz = 80 := by
  unfold askE
  split
  · split
    · split
      · split
        · exact .inl rfl
        · exact .inr (.inl rfl)
      · exact .inr (.inl rfl)
    · exact .inr (.inl rfl)
  · exact .inr (.inr rfl)

set_option maxHeartbeats 4000000 in
set_option maxRecDepth 100000 in
theorem k_Best (m : Mk) (mv : Value) (a b width : Int) (w : World) (hm : MkRd w m mv) :
    Calls Try.prog 22 #[mv, .int .i64 a, .int .i64 b, .int .i64 width] w fun e w' => ∃ v, e = .returned (.tuple #[v, .bool (bestF m a b width).2.1, .int .i64 (bestF m a b width).2.2]) ∧ OwnI w' w.heap.size v (bestF m a b width).1 ∧ Below w.heap.size w w' := by
  have HM := Lib.hid hm
  obtain ⟨ka, kc, oa, oc, rfl, _⟩ := hm
  have hB0 : Below w.heap.size w (((w.alloc (.cells #[.int .i64 m.n, .slice ka m.ks.length kc, .slice oa m.os.length oc] 24)).alloc (.cells #[.int .i64 a, .int .i64 b] 3)).alloc (.cells #[.int .i64 width] 3)) := bal (bal (bal (Below.refl _ _) _) _) _
  have hcalls := Lib.hid (k_asked m _ [] [a, b] [width] none (some ⟨w.heap.size + 1, 0, none⟩) (some ⟨w.heap.size + 1 + 1, 0, none⟩) 0 2 1 _ (HM.out.below hB0) Rd.nil ((by simpa using rdI_new (w.alloc (.cells #[.int .i64 m.n, .slice ka m.ks.length kc, .slice oa m.os.length oc] 24)) [a, b] 3 : RdI _ (some ⟨w.heap.size + 1, 0, none⟩) [a, b]).below (bal (Below.refl _ _) (.cells #[.int .i64 width] 3))) (by simpa using rdI_new ((w.alloc (.cells #[.int .i64 m.n, .slice ka m.ks.length kc, .slice oa m.os.length oc] 24)).alloc (.cells #[.int .i64 a, .int .i64 b] 3)) [width] 3) (by decide) (by simp) (by simp))
  have HM0 := Lib.hid (cal (cal (show (w.alloc (.cells #[.int .i64 m.n, .slice ka m.ks.length kc, .slice oa m.os.length oc] 24)).cell? ⟨w.heap.size, 0, none⟩ = some (.int .i64 m.n) from by simp) (.cells #[.int .i64 a, .int .i64 b] 3)) (.cells #[.int .i64 width] 3))
  have HM1 := Lib.hid (cal (cal (show (w.alloc (.cells #[.int .i64 m.n, .slice ka m.ks.length kc, .slice oa m.os.length oc] 24)).cell? ⟨w.heap.size, 1, none⟩ = some (.slice ka m.ks.length kc) from by simp) (.cells #[.int .i64 a, .int .i64 b] 3)) (.cells #[.int .i64 width] 3))
  have HM2 := Lib.hid (cal (cal (show (w.alloc (.cells #[.int .i64 m.n, .slice ka m.ks.length kc, .slice oa m.os.length oc] 24)).cell? ⟨w.heap.size, 2, none⟩ = some (.slice oa m.os.length oc) from by simp) (.cells #[.int .i64 a, .int .i64 b] 3)) (.cells #[.int .i64 width] 3))
  by_cases he : askE m [] [a, b] [width] = 0
  · have HE := Lib.hid he
    obtain ⟨hok, _, hcl, _⟩ := ask_0 he
    have hca := List.all_eq_true.1 hcl a (by simp)
    have hcb := List.all_eq_true.1 hcl b (by simp)
    simp only [okC, Bool.and_eq_true, decide_eq_true_eq] at hca hcb
    obtain ⟨a0, a1⟩ := hca
    obtain ⟨b0, b1⟩ := hcb
    have HOK := Lib.hid hok
    clear hcl
    have hpl := pow_len hok
    clear he
    cases hls : leastS m.os (fun s => decide (wdS m s a b ≤ width)) with
    | none =>
      have HLS := Lib.hid hls
      have HF : Hid (bestF m a b width = ([], false, 0)) := Lib.hid (by unfold bestF; rw [hls]; exact found_none HE.out)
      clear hls
      go_enter Try.func22, Try.ntmps22
      go_wp2_with fail
      refine hcalls.out.mono ?_
      rintro e w1 ⟨rfl, hb⟩
      rw [HE.out]
      have hB := bthen hB0 hb
      have m0 := below_cell hb HM0.out
      have m1 := below_cell hb HM1.out
      have m2 := below_cell hb HM2.out
      clear hcalls HM0 HM1 HM2 hB0 hb
      go_wp2_with fail
      go_region_held3 (fun w' => w'.cell? ⟨w.heap.size, 0, none⟩ = some (.int .i64 m.n) ∧ w'.cell? ⟨w.heap.size, 1, none⟩ = some (.slice ka m.ks.length kc) ∧ w'.cell? ⟨w.heap.size, 2, none⟩ = some (.slice oa m.os.length oc)) (first | go_keep | (go_split_ands; exact ⟨below_cell hb3 ‹_›, below_cell hb3 ‹_›, below_cell hb3 ‹_›⟩) | (go_split_ands; exact ⟨below_cell hb2 ‹_›, below_cell hb2 ‹_›, below_cell hb2 ‹_›⟩) | (go_split_ands; exact ⟨below_cell hb1 ‹_›, below_cell hb1 ‹_›, below_cell hb1 ‹_›⟩) | fail)
        (first
          | (go_at_call 62; refine (k_within m _ a b width _ (by exact HM.out.below (hB.drew)) HOK.out a0 a1 b0 b1).mono ?_; rintro e w2 ⟨fv, rfl, hW, hb1⟩)
          | (go_at_call 70; refine (k_least m _ fv _ _ (by exact HM.out.below (hB.drew.trans (hb1.mono hB.size))) HOK.out hW).mono ?_; rintro e w3 ⟨rfl, hb2⟩; rw [HLS.out]; simp only [chB, chC, chS])
          | (go_at_call 77; refine (k_clist_none _).mono ?_; rintro e w4 ⟨rfl, hb3⟩))
      go_wp2
      go_ret3
      rw [HF.out]
      exact ⟨_, rfl, World.ownsRow_nil _ _ _ _, (hB.drew.trans ((bthen (bthen hb1 hb2) hb3).mono hB.size))⟩
    | some s =>
      have HLS := Lib.hid hls
      have HF : Hid (bestF m a b width = (bits 12 s, true, 0)) := Lib.hid (by unfold bestF; rw [hls]; exact found_some HE.out)
      have hs4 : s < 4096 := by have := (leastN_lt _ _ _ _ hls).1; omega
      clear hls
      go_enter Try.func22, Try.ntmps22
      go_wp2_with fail
      refine hcalls.out.mono ?_
      rintro e w1 ⟨rfl, hb⟩
      rw [HE.out]
      have hB := bthen hB0 hb
      have m0 := below_cell hb HM0.out
      have m1 := below_cell hb HM1.out
      have m2 := below_cell hb HM2.out
      clear hcalls HM0 HM1 HM2 hB0 hb
      go_wp2_with fail
      go_region_held3 (fun w' => w'.cell? ⟨w.heap.size, 0, none⟩ = some (.int .i64 m.n) ∧ w'.cell? ⟨w.heap.size, 1, none⟩ = some (.slice ka m.ks.length kc) ∧ w'.cell? ⟨w.heap.size, 2, none⟩ = some (.slice oa m.os.length oc)) (first | go_keep | (go_split_ands; exact ⟨below_cell hb3 ‹_›, below_cell hb3 ‹_›, below_cell hb3 ‹_›⟩) | (go_split_ands; exact ⟨below_cell hb2 ‹_›, below_cell hb2 ‹_›, below_cell hb2 ‹_›⟩) | (go_split_ands; exact ⟨below_cell hb1 ‹_›, below_cell hb1 ‹_›, below_cell hb1 ‹_›⟩) | fail)
        (first
          | (go_at_call 62; refine (k_within m _ a b width _ (by exact HM.out.below (hB.drew)) HOK.out a0 a1 b0 b1).mono ?_; rintro e w2 ⟨fv, rfl, hW, hb1⟩)
          | (go_at_call 70; refine (k_least m _ fv _ _ (by exact HM.out.below (hB.drew.trans (hb1.mono hB.size))) HOK.out hW).mono ?_; rintro e w3 ⟨rfl, hb2⟩; rw [HLS.out]; simp only [chB, chC, chS])
          | (go_at_call 77; refine (k_clist_some _ s hs4 _).mono ?_; rintro e w4 ⟨v, rfl, hown, hb3⟩))
      go_wp2
      go_ret3
      rw [HF.out]
      refine ⟨_, rfl, hown.mono_base ?_, (hB.drew.trans ((bthen (bthen hb1 hb2) hb3).mono hB.size))⟩
      have := hB.size; have := hb1.size; have := hb2.size; simp at *; omega
  · have HF := Lib.hid (show bestF m a b width = ([], false, askE m [] [a, b] [width]) from found_no he)
    have HN := Lib.hid (show (askE m [] [a, b] [width] != 0) = true from by rw [bne_iff_ne]; exact he)
    have hne := HN.out
    have HE := Lib.hid he
    clear he
    go_enter Try.func22, Try.ntmps22
    go_wp2_with fail
    refine hcalls.out.mono ?_
    rintro e w1 ⟨rfl, hb⟩
    have hB := bthen hB0 hb
    clear hcalls HM0 HM1 HM2 hB0 hb
    go_wp2
    go_ret3
    rw [HF.out]
    exact ⟨_, rfl, World.ownsRow_nil _ _ _ _, hB⟩

set_option maxHeartbeats 4000000 in
set_option maxRecDepth 100000 in
theorem k_Together (m : Mk) (mv : Value) (width : Int) (w : World) (hm : MkRd w m mv) :
    Calls Try.prog 24 #[mv, .int .i64 width] w fun e w' => ∃ v, e = .returned (.tuple #[v, .bool (togF m width).2.1, .int .i64 (togF m width).2.2]) ∧ OwnI w' w.heap.size v (togF m width).1 ∧ Below w.heap.size w w' := by
  have HM := Lib.hid hm
  obtain ⟨ka, kc, oa, oc, rfl, _⟩ := hm
  have hB0 : Below w.heap.size w ((w.alloc (.cells #[.int .i64 m.n, .slice ka m.ks.length kc, .slice oa m.os.length oc] 24)).alloc (.cells #[.int .i64 width] 3)) := bal (bal (Below.refl _ _) _) _
  have hcalls := Lib.hid (k_asked m _ [] [] [width] none none (some ⟨w.heap.size + 1, 0, none⟩) 0 0 1 _ (HM.out.below hB0) Rd.nil Rd.nil (by simpa using rdI_new (w.alloc (.cells #[.int .i64 m.n, .slice ka m.ks.length kc, .slice oa m.os.length oc] 24)) [width] 3) (by decide) (by simp) (by simp))
  have HM0 := Lib.hid (cal (show (w.alloc (.cells #[.int .i64 m.n, .slice ka m.ks.length kc, .slice oa m.os.length oc] 24)).cell? ⟨w.heap.size, 0, none⟩ = some (.int .i64 m.n) from by simp) (.cells #[.int .i64 width] 3))
  have HM1 := Lib.hid (cal (show (w.alloc (.cells #[.int .i64 m.n, .slice ka m.ks.length kc, .slice oa m.os.length oc] 24)).cell? ⟨w.heap.size, 1, none⟩ = some (.slice ka m.ks.length kc) from by simp) (.cells #[.int .i64 width] 3))
  have HM2 := Lib.hid (cal (show (w.alloc (.cells #[.int .i64 m.n, .slice ka m.ks.length kc, .slice oa m.os.length oc] 24)).cell? ⟨w.heap.size, 2, none⟩ = some (.slice oa m.os.length oc) from by simp) (.cells #[.int .i64 width] 3))
  by_cases he : askE m [] [] [width] = 0
  · have HE := Lib.hid he
    obtain ⟨hok, _, _, _⟩ := ask_0 he
    have HOK := Lib.hid hok
    have hpl := pow_len hok
    clear he
    cases hls : leastS m.os (fun s => allS m s width) with
    | none =>
      have HLS := Lib.hid hls
      have HF : Hid (togF m width = ([], false, 0)) := Lib.hid (by unfold togF; rw [hls]; exact found_none HE.out)
      clear hls
      go_enter Try.func24, Try.ntmps24
      go_wp2_with fail
      refine hcalls.out.mono ?_
      rintro e w1 ⟨rfl, hb⟩
      rw [HE.out]
      have hB := bthen hB0 hb
      have m0 := below_cell hb HM0.out
      have m1 := below_cell hb HM1.out
      have m2 := below_cell hb HM2.out
      clear hcalls HM0 HM1 HM2 hB0 hb
      go_wp2_with fail
      go_region_held3 (fun w' => w'.cell? ⟨w.heap.size, 0, none⟩ = some (.int .i64 m.n) ∧ w'.cell? ⟨w.heap.size, 1, none⟩ = some (.slice ka m.ks.length kc) ∧ w'.cell? ⟨w.heap.size, 2, none⟩ = some (.slice oa m.os.length oc)) (first | go_keep | (go_split_ands; exact ⟨below_cell hb3 ‹_›, below_cell hb3 ‹_›, below_cell hb3 ‹_›⟩) | (go_split_ands; exact ⟨below_cell hb2 ‹_›, below_cell hb2 ‹_›, below_cell hb2 ‹_›⟩) | (go_split_ands; exact ⟨below_cell hb1 ‹_›, below_cell hb1 ‹_›, below_cell hb1 ‹_›⟩) | fail)
        (first
          | (go_at_call 79; refine (k_together m _ width _ (by exact HM.out.below (hB.drew)) HOK.out).mono ?_; rintro e w2 ⟨fv, rfl, hW, hb1⟩)
          | (go_at_call 70; refine (k_least m _ fv _ _ (by exact HM.out.below (hB.drew.trans (hb1.mono hB.size))) HOK.out hW).mono ?_; rintro e w3 ⟨rfl, hb2⟩; rw [HLS.out]; simp only [chB, chC, chS])
          | (go_at_call 77; refine (k_clist_none _).mono ?_; rintro e w4 ⟨rfl, hb3⟩))
      go_wp2
      go_ret3
      rw [HF.out]
      exact ⟨_, rfl, World.ownsRow_nil _ _ _ _, (hB.drew.trans ((bthen (bthen hb1 hb2) hb3).mono hB.size))⟩
    | some s =>
      have HLS := Lib.hid hls
      have HF : Hid (togF m width = (bits 12 s, true, 0)) := Lib.hid (by unfold togF; rw [hls]; exact found_some HE.out)
      have hs4 : s < 4096 := by have := (leastN_lt _ _ _ _ hls).1; omega
      clear hls
      go_enter Try.func24, Try.ntmps24
      go_wp2_with fail
      refine hcalls.out.mono ?_
      rintro e w1 ⟨rfl, hb⟩
      rw [HE.out]
      have hB := bthen hB0 hb
      have m0 := below_cell hb HM0.out
      have m1 := below_cell hb HM1.out
      have m2 := below_cell hb HM2.out
      clear hcalls HM0 HM1 HM2 hB0 hb
      go_wp2_with fail
      go_region_held3 (fun w' => w'.cell? ⟨w.heap.size, 0, none⟩ = some (.int .i64 m.n) ∧ w'.cell? ⟨w.heap.size, 1, none⟩ = some (.slice ka m.ks.length kc) ∧ w'.cell? ⟨w.heap.size, 2, none⟩ = some (.slice oa m.os.length oc)) (first | go_keep | (go_split_ands; exact ⟨below_cell hb3 ‹_›, below_cell hb3 ‹_›, below_cell hb3 ‹_›⟩) | (go_split_ands; exact ⟨below_cell hb2 ‹_›, below_cell hb2 ‹_›, below_cell hb2 ‹_›⟩) | (go_split_ands; exact ⟨below_cell hb1 ‹_›, below_cell hb1 ‹_›, below_cell hb1 ‹_›⟩) | fail)
        (first
          | (go_at_call 79; refine (k_together m _ width _ (by exact HM.out.below (hB.drew)) HOK.out).mono ?_; rintro e w2 ⟨fv, rfl, hW, hb1⟩)
          | (go_at_call 70; refine (k_least m _ fv _ _ (by exact HM.out.below (hB.drew.trans (hb1.mono hB.size))) HOK.out hW).mono ?_; rintro e w3 ⟨rfl, hb2⟩; rw [HLS.out]; simp only [chB, chC, chS])
          | (go_at_call 77; refine (k_clist_some _ s hs4 _).mono ?_; rintro e w4 ⟨v, rfl, hown, hb3⟩))
      go_wp2
      go_ret3
      rw [HF.out]
      refine ⟨_, rfl, hown.mono_base ?_, (hB.drew.trans ((bthen (bthen hb1 hb2) hb3).mono hB.size))⟩
      have := hB.size; have := hb1.size; have := hb2.size; simp at *; omega
  · have HF := Lib.hid (show togF m width = ([], false, askE m [] [] [width]) from found_no he)
    have HN := Lib.hid (show (askE m [] [] [width] != 0) = true from by rw [bne_iff_ne]; exact he)
    have hne := HN.out
    have HE := Lib.hid he
    clear he
    go_enter Try.func24, Try.ntmps24
    go_wp2_with fail
    refine hcalls.out.mono ?_
    rintro e w1 ⟨rfl, hb⟩
    have hB := bthen hB0 hb
    clear hcalls HM0 HM1 HM2 hB0 hb
    go_wp2
    go_ret3
    rw [HF.out]
    exact ⟨_, rfl, World.ownsRow_nil _ _ _ _, hB⟩

set_option maxHeartbeats 4000000 in
set_option maxRecDepth 100000 in
theorem k_Tree (m : Mk) (mv : Value) (w : World) (hm : MkRd w m mv) :
    Calls Try.prog 26 #[mv] w fun e w' => ∃ v, e = .returned (.tuple #[v, .bool (treeF m).2.1, .int .i64 (treeF m).2.2]) ∧ OwnI w' w.heap.size v (treeF m).1 ∧ Below w.heap.size w w' := by
  have HM := Lib.hid hm
  obtain ⟨ka, kc, oa, oc, rfl, _⟩ := hm
  have hB0 : Below w.heap.size w (w.alloc (.cells #[.int .i64 m.n, .slice ka m.ks.length kc, .slice oa m.os.length oc] 24)) := bal (Below.refl _ _) _
  have hcalls := Lib.hid (k_Check m _ _ (HM.out.below hB0))
  have HM0 := Lib.hid (show (w.alloc (.cells #[.int .i64 m.n, .slice ka m.ks.length kc, .slice oa m.os.length oc] 24)).cell? ⟨w.heap.size, 0, none⟩ = some (.int .i64 m.n) from by simp)
  have HM1 := Lib.hid (show (w.alloc (.cells #[.int .i64 m.n, .slice ka m.ks.length kc, .slice oa m.os.length oc] 24)).cell? ⟨w.heap.size, 1, none⟩ = some (.slice ka m.ks.length kc) from by simp)
  have HM2 := Lib.hid (show (w.alloc (.cells #[.int .i64 m.n, .slice ka m.ks.length kc, .slice oa m.os.length oc] 24)).cell? ⟨w.heap.size, 2, none⟩ = some (.slice oa m.os.length oc) from by simp)
  by_cases he : chkE m = 0
  · have HE := Lib.hid he
    have hok := chkE_ok he
    have HOK := Lib.hid hok
    have hpl := pow_len hok
    clear he
    cases hls : leastS m.os (fun s => allS m s 1099511627775) with
    | none =>
      have HLS := Lib.hid hls
      have HF : Hid (treeF m = ([], false, 0)) := Lib.hid (by unfold treeF; rw [hls]; exact found_none HE.out)
      clear hls
      go_enter Try.func26, Try.ntmps26
      go_wp2_with fail
      refine hcalls.out.mono ?_
      rintro e w1 ⟨rfl, hb⟩
      rw [HE.out]
      have hB := bthen hB0 hb
      have m0 := below_cell hb HM0.out
      have m1 := below_cell hb HM1.out
      have m2 := below_cell hb HM2.out
      clear hcalls HM0 HM1 HM2 hB0 hb
      go_wp2_with fail
      go_region_held3 (fun w' => w'.cell? ⟨w.heap.size, 0, none⟩ = some (.int .i64 m.n) ∧ w'.cell? ⟨w.heap.size, 1, none⟩ = some (.slice ka m.ks.length kc) ∧ w'.cell? ⟨w.heap.size, 2, none⟩ = some (.slice oa m.os.length oc)) (first | go_keep | (go_split_ands; exact ⟨below_cell hb3 ‹_›, below_cell hb3 ‹_›, below_cell hb3 ‹_›⟩) | (go_split_ands; exact ⟨below_cell hb2 ‹_›, below_cell hb2 ‹_›, below_cell hb2 ‹_›⟩) | (go_split_ands; exact ⟨below_cell hb1 ‹_›, below_cell hb1 ‹_›, below_cell hb1 ‹_›⟩) | fail)
        (first
          | (go_at_call 79; refine (k_together m _ 1099511627775 _ (by exact HM.out.below (hB.drew)) HOK.out).mono ?_; rintro e w2 ⟨fv, rfl, hW, hb1⟩)
          | (go_at_call 70; refine (k_least m _ fv _ _ (by exact HM.out.below (hB.drew.trans (hb1.mono hB.size))) HOK.out hW).mono ?_; rintro e w3 ⟨rfl, hb2⟩; rw [HLS.out]; simp only [chB, chC, chS])
          | (go_at_call 77; refine (k_clist_none _).mono ?_; rintro e w4 ⟨rfl, hb3⟩))
      go_wp2
      go_ret3
      rw [HF.out]
      exact ⟨_, rfl, World.ownsRow_nil _ _ _ _, (hB.drew.trans ((bthen (bthen hb1 hb2) hb3).mono hB.size))⟩
    | some s =>
      have HLS := Lib.hid hls
      have HF : Hid (treeF m = (bits 12 s, true, 0)) := Lib.hid (by unfold treeF; rw [hls]; exact found_some HE.out)
      have hs4 : s < 4096 := by have := (leastN_lt _ _ _ _ hls).1; omega
      clear hls
      go_enter Try.func26, Try.ntmps26
      go_wp2_with fail
      refine hcalls.out.mono ?_
      rintro e w1 ⟨rfl, hb⟩
      rw [HE.out]
      have hB := bthen hB0 hb
      have m0 := below_cell hb HM0.out
      have m1 := below_cell hb HM1.out
      have m2 := below_cell hb HM2.out
      clear hcalls HM0 HM1 HM2 hB0 hb
      go_wp2_with fail
      go_region_held3 (fun w' => w'.cell? ⟨w.heap.size, 0, none⟩ = some (.int .i64 m.n) ∧ w'.cell? ⟨w.heap.size, 1, none⟩ = some (.slice ka m.ks.length kc) ∧ w'.cell? ⟨w.heap.size, 2, none⟩ = some (.slice oa m.os.length oc)) (first | go_keep | (go_split_ands; exact ⟨below_cell hb3 ‹_›, below_cell hb3 ‹_›, below_cell hb3 ‹_›⟩) | (go_split_ands; exact ⟨below_cell hb2 ‹_›, below_cell hb2 ‹_›, below_cell hb2 ‹_›⟩) | (go_split_ands; exact ⟨below_cell hb1 ‹_›, below_cell hb1 ‹_›, below_cell hb1 ‹_›⟩) | fail)
        (first
          | (go_at_call 79; refine (k_together m _ 1099511627775 _ (by exact HM.out.below (hB.drew)) HOK.out).mono ?_; rintro e w2 ⟨fv, rfl, hW, hb1⟩)
          | (go_at_call 70; refine (k_least m _ fv _ _ (by exact HM.out.below (hB.drew.trans (hb1.mono hB.size))) HOK.out hW).mono ?_; rintro e w3 ⟨rfl, hb2⟩; rw [HLS.out]; simp only [chB, chC, chS])
          | (go_at_call 77; refine (k_clist_some _ s hs4 _).mono ?_; rintro e w4 ⟨v, rfl, hown, hb3⟩))
      go_wp2
      go_ret3
      rw [HF.out]
      refine ⟨_, rfl, hown.mono_base ?_, (hB.drew.trans ((bthen (bthen hb1 hb2) hb3).mono hB.size))⟩
      have := hB.size; have := hb1.size; have := hb2.size; simp at *; omega
  · have HF := Lib.hid (show treeF m = ([], false, chkE m) from found_no he)
    have HN := Lib.hid (show (chkE m != 0) = true from by rw [bne_iff_ne]; exact he)
    have hne := HN.out
    have HE := Lib.hid he
    clear he
    go_enter Try.func26, Try.ntmps26
    go_wp2_with fail
    refine hcalls.out.mono ?_
    rintro e w1 ⟨rfl, hb⟩
    have hB := bthen hB0 hb
    clear hcalls HM0 HM1 HM2 hB0 hb
    go_wp2
    go_ret3
    rw [HF.out]
    exact ⟨_, rfl, World.ownsRow_nil _ _ _ _, hB⟩

end Go.Proofs.Ytjdldmecjhddnaa
