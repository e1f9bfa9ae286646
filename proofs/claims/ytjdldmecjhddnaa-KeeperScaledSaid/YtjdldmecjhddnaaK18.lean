/- The contracts of the chapter's example and of sane, which is true. -/
import Derived.Test.YtjdldmecjhddnaaK17
import Derived.Test.YtjdldmecjhddnaaK12
import Derived.Test.YtjdldmecjhddnaaK13
import Derived.Test.YtjdldmecjhddnaaK15
namespace Go.Proofs.Ytjdldmecjhddnaa
open Go.RowKit
set_option linter.unusedVariables false
set_option linter.unusedSimpArgs false

def exM : Mk := ⟨3, [], [⟨0, 1, 5, 10⟩, ⟨1, 2, 4, 10⟩, ⟨0, 2, 12, 5⟩]⟩
theorem ex_width : widthF exM [0, 1] 0 2 = (20, true, 0) := by decide +kernel
theorem ex_best1 : bestF exM 0 2 20 = ([0, 1], true, 0) := by decide +kernel
theorem ex_best2 : bestF exM 0 2 19 = ([2], true, 0) := by decide +kernel
theorem ex_best3 : bestF exM 0 2 4 = ([], false, 0) := by decide +kernel
def exFr : List (List (Int × Int)) := [[(0, 0)], [(5, 10)], [(9, 20), (12, 5)]]
theorem ex_fronts : frontsLF exM 0 = (exFr, 0) := by decide +kernel
theorem ex_tog : togF exM 15 = ([1, 2], true, 0) := by decide +kernel
theorem ex_known : knownF exM [0, 1] 0 2 [] [(0, 10), (-3, 7)] = ((-3, 17), true, 0) := by decide +kernel
theorem ex_price : priceF exM 0 2 20 0 = (3, true, 0) := by decide +kernel
theorem ex_needed : neededF exM 0 1 10 = ([0], 0) := by decide +kernel
theorem ex_least : leastF exM 0 2 11 = (20, true, 0) := by decide +kernel
theorem ex_path1 : pathE exM [0, 1] 0 2 20 [0, 1, 2] = 0 := by decide +kernel
theorem ex_path2 : pathE exM [0, 1] 0 2 19 [0, 1, 2] = 32 := by decide +kernel
theorem ex_check : chkE ⟨0, [], []⟩ = 80 := by decide +kernel
theorem ex_rd (w : World) (t : TypeId) (n : Nat) (hn : n = w.heap.size) : MkRd (w.alloc (.cells #[.int .i64 0, .int .i64 1, .int .i64 5, .int .i64 10, .int .i64 1, .int .i64 2, .int .i64 4, .int .i64 10, .int .i64 0, .int .i64 2, .int .i64 12, .int .i64 5] t)) exM (.agg #[.int .i64 3, .slice none 0 0, .slice (some ⟨n, 0, none⟩) 3 3]) := by
  subst hn
  refine ⟨none, 0, _, _, rfl, Rd.nil, fun _ => ⟨_, _, rfl, fun i x hx j v hv => ?_⟩, by decide, by decide⟩
  rw [World.cell?_alloc_new]
  rcases i with _ | _ | _ | i
  · obtain rfl : (⟨0, 1, 5, 10⟩ : Off) = x := by simpa [exM] using hx
    rcases j with _ | _ | _ | _ | j <;> simp [encO] at hv <;> subst hv <;> rfl
  · obtain rfl : (⟨1, 2, 4, 10⟩ : Off) = x := by simpa [exM] using hx
    rcases j with _ | _ | _ | _ | j <;> simp [encO] at hv <;> subst hv <;> rfl
  · obtain rfl : (⟨0, 2, 12, 5⟩ : Off) = x := by simpa [exM] using hx
    rcases j with _ | _ | _ | _ | j <;> simp [encO] at hv <;> subst hv <;> rfl
  · simp [exM] at hx
set_option maxHeartbeats 1000000 in
theorem l_example (w : World) : Calls Try.prog 58 #[] w fun e w' => ∃ X, e = .returned (.agg #[.int .i64 3, .slice none 0 0, .slice (some ⟨X, 0, none⟩) 3 3]) ∧ MkRd w' exM (.agg #[.int .i64 3, .slice none 0 0, .slice (some ⟨X, 0, none⟩) 3 3]) ∧ Below w.heap.size w w' := by
  go_enter Try.func58, Try.ntmps58
  go_wp2
  exact bodyPost_ret (v := .agg #[.int .i64 3, .slice none 0 0, .slice (some ⟨w.heap.size + 1, 0, none⟩) 3 3]) (by simp [results, Try.results58, go_sem]) rfl ⟨_, rfl, ex_rd _ _ _ (by simp), bal (bal (Below.refl _ _) _) _⟩
theorem ex_ll (w : World) (t1 t2 t3 t4 : TypeId) : RdLL ((((w.alloc (.cells #[.int .i64 0, .int .i64 0] t1)).alloc (.cells #[.int .i64 5, .int .i64 10] t2)).alloc (.cells #[.int .i64 9, .int .i64 20, .int .i64 12, .int .i64 5] t3)).alloc (.cells #[.slice (some ⟨w.heap.size, 0, none⟩) 1 1, .slice (some ⟨w.heap.size + 1, 0, none⟩) 1 1, .slice (some ⟨w.heap.size + 1 + 1, 0, none⟩) 2 2] t4)) (some ⟨w.heap.size + 1 + 1 + 1, 0, none⟩) exFr := by
  intro _
  refine ⟨_, _, rfl, fun i l hl => ?_⟩
  rcases i with _ | _ | _ | i
  · obtain rfl : [(0, 0)] = l := by simpa [exFr] using hl
    refine ⟨_, _, cnew (by simp) rfl, fun _ => ⟨_, _, rfl, fun i x hx j v hv => ?_⟩⟩
    rcases i with _ | i
    · obtain rfl : ((0, 0) : Int × Int) = x := by simpa using hx
      rcases j with _ | _ | j <;> simp [encP] at hv <;> subst hv <;> exact cal (cal (cal (by simp) _) _) _
    · simp at hx
  · obtain rfl : [(5, 10)] = l := by simpa [exFr] using hl
    refine ⟨_, _, cnew (by simp) rfl, fun _ => ⟨_, _, rfl, fun i x hx j v hv => ?_⟩⟩
    rcases i with _ | i
    · obtain rfl : ((5, 10) : Int × Int) = x := by simpa using hx
      rcases j with _ | _ | j <;> simp [encP] at hv <;> subst hv <;> exact cal (cal (cnew (by simp) rfl) _) _
    · simp at hx
  · obtain rfl : [(9, 20), (12, 5)] = l := by simpa [exFr] using hl
    refine ⟨_, _, cnew (by simp) rfl, fun _ => ⟨_, _, rfl, fun i x hx j v hv => ?_⟩⟩
    rcases i with _ | _ | i
    · obtain rfl : ((9, 20) : Int × Int) = x := by simpa using hx
      rcases j with _ | _ | j <;> simp [encP] at hv <;> subst hv <;> exact cal (cnew (by simp) rfl) _
    · obtain rfl : ((12, 5) : Int × Int) = x := by simpa using hx
      rcases j with _ | _ | j <;> simp [encP] at hv <;> subst hv <;> exact cal (cnew (by simp) rfl) _
    · simp at hx
  · simp [exFr] at hl
theorem ex_spans (w : World) (t : TypeId) : RdP (w.alloc (.cells #[.int .i64 0, .int .i64 10, .int .i64 (-3), .int .i64 7] t)) (some ⟨w.heap.size, 0, none⟩) [(0, 10), (-3, 7)] := by
  intro _
  refine ⟨_, _, rfl, fun i x hx j v hv => ?_⟩
  rcases i with _ | _ | i
  · obtain rfl : ((0, 10) : Int × Int) = x := by simpa using hx
    rcases j with _ | _ | j <;> simp [encP] at hv <;> subst hv <;> exact cnew (by simp) rfl
  · obtain rfl : ((-3, 7) : Int × Int) = x := by simpa using hx
    rcases j with _ | _ | j <;> simp [encP] at hv <;> subst hv <;> exact cnew (by simp) rfl
  · simp at hx
set_option maxHeartbeats 8000000 in
set_option maxRecDepth 100000 in
theorem l_sane (w : World) : Calls Try.prog 13 #[] w fun e w' => e = .returned (.bool true) ∧ Below w.heap.size w w' := by
  go_enter Try.func13, Try.ntmps13
  go_wp2_with fail
  refine (l_example _).mono ?_
  rintro e w1 ⟨X, rfl, hm, hB⟩
  have HM := Lib.hid hm
  clear hm
  go_wp2_with fail
  refine (k_Width exM _ [0, 1] (some ⟨w1.heap.size + 1, 0, none⟩) 2 0 2 _ (by exact HM.out.below (bal (bal (Below.refl _ _) (.cells #[.int .i64 3, .slice none 0 0, .slice (some ⟨X, 0, none⟩) 3 3] 24)) (.cells #[.int .i64 0, .int .i64 1] 3))) (by simpa using rdI_new (w1.alloc (.cells #[.int .i64 3, .slice none 0 0, .slice (some ⟨X, 0, none⟩) 3 3] 24)) [0, 1] 3 : RdI _ (some ⟨w1.heap.size + 1, 0, none⟩) [0, 1]) (by decide)).mono ?_
  rintro e w2 ⟨rfl, hb⟩
  rw [ex_width]
  have hbk : Below w1.heap.size w1 w2 := bthen (bal (bal (Below.refl _ _) (.cells #[.int .i64 3, .slice none 0 0, .slice (some ⟨X, 0, none⟩) 3 3] 24)) (.cells #[.int .i64 0, .int .i64 1] 3)) hb
  have m0 := below_cell hb (cal (show (w1.alloc (.cells #[.int .i64 3, .slice none 0 0, .slice (some ⟨X, 0, none⟩) 3 3] 24)).cell? ⟨w1.heap.size, 0, none⟩ = some (.int .i64 3) from by simp) (.cells #[.int .i64 0, .int .i64 1] 3))
  have m1 := below_cell hb (cal (show (w1.alloc (.cells #[.int .i64 3, .slice none 0 0, .slice (some ⟨X, 0, none⟩) 3 3] 24)).cell? ⟨w1.heap.size, 1, none⟩ = some (.slice none 0 0) from by simp) (.cells #[.int .i64 0, .int .i64 1] 3))
  have m2 := below_cell hb (cal (show (w1.alloc (.cells #[.int .i64 3, .slice none 0 0, .slice (some ⟨X, 0, none⟩) 3 3] 24)).cell? ⟨w1.heap.size, 2, none⟩ = some (.slice (some ⟨X, 0, none⟩) 3 3) from by simp) (.cells #[.int .i64 0, .int .i64 1] 3))
  have hlt1 : w1.heap.size < w2.heap.size := World.block_lt_of_cell? w2 _ m0
  replace HM := Lib.hid (HM.out.below hbk)
  replace hB := bthen hB hbk
  clear hbk hb
  go_wp2_with fail
  refine (k_Best exM _ 0 2 20 _ (by exact HM.out.below (Below.refl _ _))).mono ?_
  rintro e w3 ⟨v, rfl, hown, hb⟩
  rw [ex_best1] at hown ⊢
  have hbk : Below w2.heap.size w2 w3 := bthen (Below.refl _ _) hb
  replace m0 := below_cell hbk m0
  replace m1 := below_cell hbk m1
  replace m2 := below_cell hbk m2
  replace hlt1 : w1.heap.size < w3.heap.size := World.block_lt_of_cell? w3 _ m0
  replace HM := Lib.hid (HM.out.below hbk)
  replace hB := bthen hB hbk
  obtain ⟨LLa, LLc, rfl, LL⟩ := own_rdI hown
  replace LL := Lib.hid LL
  clear hown
  clear hbk hb
  go_wp2_with fail
  refine (k_Best exM _ 0 2 19 _ (by exact HM.out.below (Below.refl _ _))).mono ?_
  rintro e w4 ⟨v, rfl, hown, hb⟩
  rw [ex_best2] at hown ⊢
  have hbk : Below w3.heap.size w3 w4 := bthen (Below.refl _ _) hb
  replace m0 := below_cell hbk m0
  replace m1 := below_cell hbk m1
  replace m2 := below_cell hbk m2
  replace hlt1 : w1.heap.size < w4.heap.size := World.block_lt_of_cell? w4 _ m0
  replace HM := Lib.hid (HM.out.below hbk)
  replace hB := bthen hB hbk
  replace LL := Lib.hid (LL.out.below hbk)
  obtain ⟨LKa, LKc, rfl, LK⟩ := own_rdI hown
  replace LK := Lib.hid LK
  clear hown
  clear hbk hb
  go_wp2_with fail
  refine (k_Best exM _ 0 2 4 _ (by exact HM.out.below (Below.refl _ _))).mono ?_
  rintro e w5 ⟨v4, rfl, hown, hb⟩
  rw [ex_best3] at hown ⊢
  have hbk : Below w4.heap.size w4 w5 := bthen (Below.refl _ _) hb
  replace m0 := below_cell hbk m0
  replace m1 := below_cell hbk m1
  replace m2 := below_cell hbk m2
  replace hlt1 : w1.heap.size < w5.heap.size := World.block_lt_of_cell? w5 _ m0
  replace HM := Lib.hid (HM.out.below hbk)
  replace hB := bthen hB hbk
  replace LL := Lib.hid (LL.out.below hbk)
  replace LK := Lib.hid (LK.out.below hbk)
  clear hown
  clear hbk hb
  go_wp2_with fail
  refine (c_Equal [0, 1] [0, 1] _ (some ⟨w5.heap.size, 0, none⟩) 2 2 _ 2 true _ rfl rfl (by decide) (by exact LL.out.below (bal (Below.refl _ _) (.cells #[.int .i64 0, .int .i64 1] 3))) (by simpa using rdI_new w5 [0, 1] 3 : RdI _ (some ⟨w5.heap.size, 0, none⟩) [0, 1]) (by decide) (by decide)).mono ?_
  rintro e w6 ⟨rfl, hb⟩
  have hbk : Below w5.heap.size w5 w6 := bthen (bal (Below.refl _ _) (.cells #[.int .i64 0, .int .i64 1] 3)) hb
  replace m0 := below_cell hbk m0
  replace m1 := below_cell hbk m1
  replace m2 := below_cell hbk m2
  replace hlt1 : w1.heap.size < w6.heap.size := World.block_lt_of_cell? w6 _ m0
  replace HM := Lib.hid (HM.out.below hbk)
  replace hB := bthen hB hbk
  replace LL := Lib.hid (LL.out.below hbk)
  replace LK := Lib.hid (LK.out.below hbk)
  clear hbk hb
  go_wp2_with fail
  refine (c_Equal [2] [2] _ (some ⟨w6.heap.size, 0, none⟩) 1 1 _ 1 true _ rfl rfl (by decide) (by exact LK.out.below (bal (Below.refl _ _) (.cells #[.int .i64 2] 3))) (by simpa using rdI_new w6 [2] 3 : RdI _ (some ⟨w6.heap.size, 0, none⟩) [2]) (by decide) (by decide)).mono ?_
  rintro e w7 ⟨rfl, hb⟩
  have hbk : Below w6.heap.size w6 w7 := bthen (bal (Below.refl _ _) (.cells #[.int .i64 2] 3)) hb
  replace m0 := below_cell hbk m0
  replace m1 := below_cell hbk m1
  replace m2 := below_cell hbk m2
  replace hlt1 : w1.heap.size < w7.heap.size := World.block_lt_of_cell? w7 _ m0
  replace HM := Lib.hid (HM.out.below hbk)
  replace hB := bthen hB hbk
  replace LL := Lib.hid (LL.out.below hbk)
  replace LK := Lib.hid (LK.out.below hbk)
  clear hbk hb
  clear LL LK
  go_wp2_with fail
  refine (k_Fronts exM _ 0 _ (by exact HM.out.below (Below.refl _ _))).mono ?_
  rintro e w8 ⟨va, vc, rfl, hrd, hb⟩
  rw [ex_fronts] at hrd ⊢
  have hbk : Below w7.heap.size w7 w8 := bthen (Below.refl _ _) hb
  replace m0 := below_cell hbk m0
  replace m1 := below_cell hbk m1
  replace m2 := below_cell hbk m2
  replace hlt1 : w1.heap.size < w8.heap.size := World.block_lt_of_cell? w8 _ m0
  replace HM := Lib.hid (HM.out.below hbk)
  replace hB := bthen hB hbk
  have FR := Lib.hid hrd
  simp only [show (exFr, (0 : Int)).1.length = 3 from rfl]
  clear hrd
  clear hbk hb
  go_wp2_with fail
  refine (k_Together exM _ 15 _ (by exact HM.out.below (Below.refl _ _))).mono ?_
  rintro e w9 ⟨v, rfl, hown, hb⟩
  rw [ex_tog] at hown ⊢
  have hbk : Below w8.heap.size w8 w9 := bthen (Below.refl _ _) hb
  replace m0 := below_cell hbk m0
  replace m1 := below_cell hbk m1
  replace m2 := below_cell hbk m2
  replace hlt1 : w1.heap.size < w9.heap.size := World.block_lt_of_cell? w9 _ m0
  replace HM := Lib.hid (HM.out.below hbk)
  replace hB := bthen hB hbk
  replace FR := Lib.hid (FR.out.below hbk)
  obtain ⟨LTa, LTc, rfl, LT⟩ := own_rdI hown
  replace LT := Lib.hid LT
  clear hown
  clear hbk hb
  go_wp2_with fail
  refine (k_Known exM _ [0, 1] (some ⟨w9.heap.size, 0, none⟩) 2 0 2 [] [(0, 10), (-3, 7)] none (some ⟨w9.heap.size + 1, 0, none⟩) 0 2 0 2 _ (by exact HM.out.below (bal (bal (Below.refl _ _) (.cells #[.int .i64 0, .int .i64 1] 3)) (.cells #[.int .i64 0, .int .i64 10, .int .i64 (-3), .int .i64 7] 82))) ((by simpa using rdI_new w9 [0, 1] 3 : RdI _ (some ⟨w9.heap.size, 0, none⟩) [0, 1]).below (bal (Below.refl _ _) (.cells #[.int .i64 0, .int .i64 10, .int .i64 (-3), .int .i64 7] 82))) (by decide) Rd.nil rfl (by decide) (by simpa using ex_spans (w9.alloc (.cells #[.int .i64 0, .int .i64 1] 3)) 82) rfl (by decide)).mono ?_
  rintro e w10 ⟨rfl, hb⟩
  rw [ex_known]
  have hbk : Below w9.heap.size w9 w10 := bthen (bal (bal (Below.refl _ _) (.cells #[.int .i64 0, .int .i64 1] 3)) (.cells #[.int .i64 0, .int .i64 10, .int .i64 (-3), .int .i64 7] 82)) hb
  replace m0 := below_cell hbk m0
  replace m1 := below_cell hbk m1
  replace m2 := below_cell hbk m2
  replace hlt1 : w1.heap.size < w10.heap.size := World.block_lt_of_cell? w10 _ m0
  replace HM := Lib.hid (HM.out.below hbk)
  replace hB := bthen hB hbk
  replace FR := Lib.hid (FR.out.below hbk)
  replace LT := Lib.hid (LT.out.below hbk)
  have s0 := (show (w10.alloc (.cells #[.int .i64 (-3), .int .i64 17] 82)).cell? ⟨w10.heap.size, 0, none⟩ = some (.int .i64 (-3)) from by simp)
  have s1 := (show (w10.alloc (.cells #[.int .i64 (-3), .int .i64 17] 82)).cell? ⟨w10.heap.size, 1, none⟩ = some (.int .i64 17) from by simp)
  have S0 := Lib.hid s0
  have S1 := Lib.hid s1
  clear s0 s1
  clear hbk hb
  go_wp2_with fail
  refine (k_Price exM _ 0 2 20 0 _ (by exact HM.out.below (bal (Below.refl _ _) (.cells #[.int .i64 (-3), .int .i64 17] 82)))).mono ?_
  rintro e w11 ⟨rfl, hb⟩
  rw [ex_price]
  have hbk : Below w10.heap.size w10 w11 := bthen (bal (Below.refl _ _) (.cells #[.int .i64 (-3), .int .i64 17] 82)) hb
  replace m0 := below_cell hbk m0
  replace m1 := below_cell hbk m1
  replace m2 := below_cell hbk m2
  replace hlt1 : w1.heap.size < w11.heap.size := World.block_lt_of_cell? w11 _ m0
  replace HM := Lib.hid (HM.out.below hbk)
  replace hB := bthen hB hbk
  replace FR := Lib.hid (FR.out.below hbk)
  replace LT := Lib.hid (LT.out.below hbk)
  have s0 := below_cell hb S0.out
  have s1 := below_cell hb S1.out
  clear S0 S1
  have hlt2 : w10.heap.size < w11.heap.size := World.block_lt_of_cell? _ _ s0
  clear hbk hb
  go_wp2_with fail
  refine (r_SameFronts exFr exFr _ (some ⟨w11.heap.size + 1 + 1 + 1, 0, none⟩) 3 3 _ 3 true _ rfl rfl (by decide) (by exact FR.out.below (bal (bal (bal (bal (Below.refl _ _) (.cells #[.int .i64 0, .int .i64 0] 54)) (.cells #[.int .i64 5, .int .i64 10] 54)) (.cells #[.int .i64 9, .int .i64 20, .int .i64 12, .int .i64 5] 54)) (.cells #[.slice (some ⟨w11.heap.size, 0, none⟩) 1 1, .slice (some ⟨w11.heap.size + 1, 0, none⟩) 1 1, .slice (some ⟨w11.heap.size + 1 + 1, 0, none⟩) 2 2] 48))) (by exact ex_ll w11 _ _ _ _) (by decide) (by decide) (by decide) (by decide)).mono ?_
  rintro e w12 ⟨rfl, hb⟩
  have hbk : Below w11.heap.size w11 w12 := bthen (bal (bal (bal (bal (Below.refl _ _) (.cells #[.int .i64 0, .int .i64 0] 54)) (.cells #[.int .i64 5, .int .i64 10] 54)) (.cells #[.int .i64 9, .int .i64 20, .int .i64 12, .int .i64 5] 54)) (.cells #[.slice (some ⟨w11.heap.size, 0, none⟩) 1 1, .slice (some ⟨w11.heap.size + 1, 0, none⟩) 1 1, .slice (some ⟨w11.heap.size + 1 + 1, 0, none⟩) 2 2] 48)) hb
  replace m0 := below_cell hbk m0
  replace m1 := below_cell hbk m1
  replace m2 := below_cell hbk m2
  replace hlt1 : w1.heap.size < w12.heap.size := World.block_lt_of_cell? w12 _ m0
  replace HM := Lib.hid (HM.out.below hbk)
  replace hB := bthen hB hbk
  replace FR := Lib.hid (FR.out.below hbk)
  replace LT := Lib.hid (LT.out.below hbk)
  replace s0 := below_cell hbk s0
  replace s1 := below_cell hbk s1
  replace hlt2 := Nat.lt_of_lt_of_le hlt2 hbk.size
  clear hbk hb
  clear FR
  go_wp2_with fail
  refine (c_Equal [1, 2] [1, 2] _ (some ⟨w12.heap.size, 0, none⟩) 2 2 _ 2 true _ rfl rfl (by decide) (by exact LT.out.below (bal (Below.refl _ _) (.cells #[.int .i64 1, .int .i64 2] 3))) (by simpa using rdI_new w12 [1, 2] 3 : RdI _ (some ⟨w12.heap.size, 0, none⟩) [1, 2]) (by decide) (by decide)).mono ?_
  rintro e w13 ⟨rfl, hb⟩
  have hbk : Below w12.heap.size w12 w13 := bthen (bal (Below.refl _ _) (.cells #[.int .i64 1, .int .i64 2] 3)) hb
  replace m0 := below_cell hbk m0
  replace m1 := below_cell hbk m1
  replace m2 := below_cell hbk m2
  replace hlt1 : w1.heap.size < w13.heap.size := World.block_lt_of_cell? w13 _ m0
  replace HM := Lib.hid (HM.out.below hbk)
  replace hB := bthen hB hbk
  replace LT := Lib.hid (LT.out.below hbk)
  replace s0 := below_cell hbk s0
  replace s1 := below_cell hbk s1
  replace hlt2 := Nat.lt_of_lt_of_le hlt2 hbk.size
  clear hbk hb
  clear LT
  go_wp2_with fail
  refine (k_Needed exM _ 0 1 10 _ (by exact HM.out.below (Below.refl _ _))).mono ?_
  rintro e w14 ⟨v, rfl, hown, hb⟩
  rw [ex_needed] at hown ⊢
  have hbk : Below w13.heap.size w13 w14 := bthen (Below.refl _ _) hb
  replace m0 := below_cell hbk m0
  replace m1 := below_cell hbk m1
  replace m2 := below_cell hbk m2
  replace hlt1 : w1.heap.size < w14.heap.size := World.block_lt_of_cell? w14 _ m0
  replace HM := Lib.hid (HM.out.below hbk)
  replace hB := bthen hB hbk
  replace s0 := below_cell hbk s0
  replace s1 := below_cell hbk s1
  replace hlt2 := Nat.lt_of_lt_of_le hlt2 hbk.size
  obtain ⟨LOa, LOc, rfl, LO⟩ := own_rdI hown
  replace LO := Lib.hid LO
  clear hown
  clear hbk hb
  clear s0 s1 hlt2
  go_wp2_with fail
  refine (k_Least exM _ 0 2 11 _ (by exact HM.out.below (Below.refl _ _))).mono ?_
  rintro e w15 ⟨rfl, hb⟩
  rw [ex_least]
  have hbk : Below w14.heap.size w14 w15 := bthen (Below.refl _ _) hb
  replace m0 := below_cell hbk m0
  replace m1 := below_cell hbk m1
  replace m2 := below_cell hbk m2
  replace hlt1 : w1.heap.size < w15.heap.size := World.block_lt_of_cell? w15 _ m0
  replace HM := Lib.hid (HM.out.below hbk)
  replace hB := bthen hB hbk
  replace LO := Lib.hid (LO.out.below hbk)
  clear hbk hb
  go_wp2_with fail
  refine (c_Equal [0] [0] _ (some ⟨w15.heap.size, 0, none⟩) 1 1 _ 1 true _ rfl rfl (by decide) (by exact LO.out.below (bal (Below.refl _ _) (.cells #[.int .i64 0] 3))) (by simpa using rdI_new w15 [0] 3 : RdI _ (some ⟨w15.heap.size, 0, none⟩) [0]) (by decide) (by decide)).mono ?_
  rintro e w16 ⟨rfl, hb⟩
  have hbk : Below w15.heap.size w15 w16 := bthen (bal (Below.refl _ _) (.cells #[.int .i64 0] 3)) hb
  replace m0 := below_cell hbk m0
  replace m1 := below_cell hbk m1
  replace m2 := below_cell hbk m2
  replace hlt1 : w1.heap.size < w16.heap.size := World.block_lt_of_cell? w16 _ m0
  replace HM := Lib.hid (HM.out.below hbk)
  replace hB := bthen hB hbk
  replace LO := Lib.hid (LO.out.below hbk)
  clear hbk hb
  clear LO
  go_wp2_with fail
  refine (k_CheckPath exM _ [0, 1] (some ⟨w16.heap.size, 0, none⟩) 2 0 2 20 [0, 1, 2] (some ⟨w16.heap.size + 1, 0, none⟩) 3 3 _ (by exact HM.out.below (bal (bal (Below.refl _ _) (.cells #[.int .i64 0, .int .i64 1] 3)) (.cells #[.int .i64 0, .int .i64 1, .int .i64 2] 3))) ((by simpa using rdI_new w16 [0, 1] 3 : RdI _ (some ⟨w16.heap.size, 0, none⟩) [0, 1]).below (bal (Below.refl _ _) (.cells #[.int .i64 0, .int .i64 1, .int .i64 2] 3))) (by decide) (by simpa using rdI_new (w16.alloc (.cells #[.int .i64 0, .int .i64 1] 3)) [0, 1, 2] 3 : RdI _ (some ⟨w16.heap.size + 1, 0, none⟩) [0, 1, 2]) rfl (by decide)).mono ?_
  rintro e w17 ⟨rfl, hb⟩
  rw [ex_path1]
  have hbk : Below w16.heap.size w16 w17 := bthen (bal (bal (Below.refl _ _) (.cells #[.int .i64 0, .int .i64 1] 3)) (.cells #[.int .i64 0, .int .i64 1, .int .i64 2] 3)) hb
  replace m0 := below_cell hbk m0
  replace m1 := below_cell hbk m1
  replace m2 := below_cell hbk m2
  replace hlt1 : w1.heap.size < w17.heap.size := World.block_lt_of_cell? w17 _ m0
  replace HM := Lib.hid (HM.out.below hbk)
  replace hB := bthen hB hbk
  clear hbk hb
  go_wp2_with fail
  refine (k_CheckPath exM _ [0, 1] (some ⟨w17.heap.size, 0, none⟩) 2 0 2 19 [0, 1, 2] (some ⟨w17.heap.size + 1, 0, none⟩) 3 3 _ (by exact HM.out.below (bal (bal (Below.refl _ _) (.cells #[.int .i64 0, .int .i64 1] 3)) (.cells #[.int .i64 0, .int .i64 1, .int .i64 2] 3))) ((by simpa using rdI_new w17 [0, 1] 3 : RdI _ (some ⟨w17.heap.size, 0, none⟩) [0, 1]).below (bal (Below.refl _ _) (.cells #[.int .i64 0, .int .i64 1, .int .i64 2] 3))) (by decide) (by simpa using rdI_new (w17.alloc (.cells #[.int .i64 0, .int .i64 1] 3)) [0, 1, 2] 3 : RdI _ (some ⟨w17.heap.size + 1, 0, none⟩) [0, 1, 2]) rfl (by decide)).mono ?_
  rintro e w18 ⟨rfl, hb⟩
  rw [ex_path2]
  have hbk : Below w17.heap.size w17 w18 := bthen (bal (bal (Below.refl _ _) (.cells #[.int .i64 0, .int .i64 1] 3)) (.cells #[.int .i64 0, .int .i64 1, .int .i64 2] 3)) hb
  replace m0 := below_cell hbk m0
  replace m1 := below_cell hbk m1
  replace m2 := below_cell hbk m2
  replace hlt1 : w1.heap.size < w18.heap.size := World.block_lt_of_cell? w18 _ m0
  replace HM := Lib.hid (HM.out.below hbk)
  replace hB := bthen hB hbk
  clear hbk hb
  go_wp2_with fail
  refine (k_Check ⟨0, [], []⟩ _ _ ⟨none, 0, none, 0, rfl, Rd.nil, Rd.nil, by decide, by decide⟩).mono ?_
  rintro e w19 ⟨rfl, hb⟩
  rw [ex_check]
  have hbk : Below w18.heap.size w18 w19 := bthen (Below.refl _ _) hb
  replace m0 := below_cell hbk m0
  replace m1 := below_cell hbk m1
  replace m2 := below_cell hbk m2
  replace hlt1 : w1.heap.size < w19.heap.size := World.block_lt_of_cell? w19 _ m0
  replace HM := Lib.hid (HM.out.below hbk)
  replace hB := bthen hB hbk
  clear hbk hb
  go_wp2
  go_ret
  exact ⟨rfl, hB⟩
end Go.Proofs.Ytjdldmecjhddnaa
