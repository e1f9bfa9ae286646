/- The contracts of keeper's everything, reachable, Needed, Price, Least, Width, Cost. -/
import Derived.Test.YtjdldmecjhddnaaK9
import Derived.Test.YtjdldmecjhddnaaKPure3
namespace Go.Proofs.Ytjdldmecjhddnaa
open Go.RowKit
set_option linter.unusedVariables false
set_option linter.unusedSimpArgs false

theorem fld_want (v : Value) (w : World) : Sem.run Try.prog (Instr.field 90 (Value.agg #[v]) 0) w = .ok v w := by
  simp [Instr.field, part, isAgg, run_underlying Try.underlying90, run_underlying Try.underlying88, asAgg]
theorem shl_len1 (n : Nat) (h : n ≤ 12) : wrap64 (wrap64 (2 ^ min n 64) - 1) = ((2 ^ n - 1 : Nat) : Int) := by
  rw [shl_len n h]
  have h1 : 2 ^ n ≤ 4096 := Nat.pow_le_pow_right (n := 2) (by decide) h
  have h0 : 0 < 2 ^ n := Nat.two_pow_pos _
  generalize 2 ^ n = z at *
  unfold wrap64; omega

set_option maxHeartbeats 1000000 in
set_option maxRecDepth 100000 in
theorem k_everything (m : Mk) (mv : Value) (w : World) (hm : MkRd w m mv) (hok : m.ok = true) :
    Calls Try.prog 63 #[mv] w fun e w' => e = .returned (.int .i64 (allN m)) ∧ Below w.heap.size w w' := by
  obtain ⟨ka, kc, oa, oc, rfl, _⟩ := hm
  have h12 := (okM hok).o12
  have hsh := shl_len1 _ h12
  have hmin : min m.os.length 64 = m.os.length := Nat.min_eq_left (by omega)
  rw [hmin] at hsh
  go_enter Try.func63, Try.ntmps63
  go_wp2
  go_ret
  exact ⟨ret_int (by first | exact hsh | (unfold allN; rw [← hsh])), bal (Below.refl _ _) _⟩
theorem allN_lt (m : Mk) : allN m < 2 ^ m.os.length := by have := Nat.two_pow_pos m.os.length; unfold allN; omega

/-- What is asked of two clocks and a width, and whether all offers reach it. -/
def reachE (m : Mk) (a b width : Int) : Int := if askE m [] [a, b] [width] ≠ 0 then askE m [] [a, b] [width] else if wdS m (allN m) a b ≤ width then 0 else 4

set_option maxHeartbeats 4000000 in
set_option maxRecDepth 100000 in
theorem k_reachable (m : Mk) (mv : Value) (a b width : Int) (w : World) (hm : MkRd w m mv) :
    Calls Try.prog 61 #[mv, .int .i64 a, .int .i64 b, .int .i64 width] w fun e w' => e = .returned (.int .i64 (reachE m a b width)) ∧ Below w.heap.size w w' := by
  have HM := Lib.hid hm
  obtain ⟨ka, kc, oa, oc, rfl, _⟩ := hm
  have hB0 : Below w.heap.size w (((w.alloc (.cells #[.int .i64 m.n, .slice ka m.ks.length kc, .slice oa m.os.length oc] 24)).alloc (.cells #[.int .i64 a, .int .i64 b] 3)).alloc (.cells #[.int .i64 width] 3)) := bal (bal (bal (Below.refl _ _) _) _) _
  have hcalls := Lib.hid (k_asked m _ [] [a, b] [width] none (some ⟨w.heap.size + 1, 0, none⟩) (some ⟨w.heap.size + 1 + 1, 0, none⟩) 0 2 1 _ (HM.out.below hB0) Rd.nil ((by simpa using rdI_new (w.alloc (.cells #[.int .i64 m.n, .slice ka m.ks.length kc, .slice oa m.os.length oc] 24)) [a, b] 3 : RdI _ (some ⟨w.heap.size + 1, 0, none⟩) [a, b]).below (bal (Below.refl _ _) (.cells #[.int .i64 width] 3))) (by simpa using rdI_new ((w.alloc (.cells #[.int .i64 m.n, .slice ka m.ks.length kc, .slice oa m.os.length oc] 24)).alloc (.cells #[.int .i64 a, .int .i64 b] 3)) [width] 3 : RdI _ (some ⟨w.heap.size + 1 + 1, 0, none⟩) [width]) (by decide) (by simp) (by simp))
  have HM0 := Lib.hid (cal (cal (show (w.alloc (.cells #[.int .i64 m.n, .slice ka m.ks.length kc, .slice oa m.os.length oc] 24)).cell? ⟨w.heap.size, 0, none⟩ = some (.int .i64 m.n) from by simp) (.cells #[.int .i64 a, .int .i64 b] 3)) (.cells #[.int .i64 width] 3))
  have HM1 := Lib.hid (cal (cal (show (w.alloc (.cells #[.int .i64 m.n, .slice ka m.ks.length kc, .slice oa m.os.length oc] 24)).cell? ⟨w.heap.size, 1, none⟩ = some (.slice ka m.ks.length kc) from by simp) (.cells #[.int .i64 a, .int .i64 b] 3)) (.cells #[.int .i64 width] 3))
  have HM2 := Lib.hid (cal (cal (show (w.alloc (.cells #[.int .i64 m.n, .slice ka m.ks.length kc, .slice oa m.os.length oc] 24)).cell? ⟨w.heap.size, 2, none⟩ = some (.slice oa m.os.length oc) from by simp) (.cells #[.int .i64 a, .int .i64 b] 3)) (.cells #[.int .i64 width] 3))
  by_cases he : askE m [] [a, b] [width] ≠ 0
  · have HF := Lib.hid (show reachE m a b width = askE m [] [a, b] [width] from if_pos he)
    have HN := Lib.hid (show (askE m [] [a, b] [width] != 0) = true from by rw [bne_iff_ne]; exact he)
    have hne := HN.out
    have HE := Lib.hid he
    clear he
    go_enter Try.func61, Try.ntmps61
    go_wp2_with fail
    refine hcalls.out.mono ?_
    rintro e w1 ⟨rfl, hb⟩
    have hB := bthen hB0 hb
    have m0 := below_cell hb HM0.out
    have m1 := below_cell hb HM1.out
    have m2 := below_cell hb HM2.out
    clear hcalls HM0 HM1 HM2 hB0 hb
    clear m0 m1 m2
    go_wp2
    go_ret
    exact ⟨ret_int HF.out.symm, hB⟩
  · have he0 : askE m [] [a, b] [width] = 0 := Decidable.of_not_not he
    have HE := Lib.hid he0
    clear he
    obtain ⟨hok, hright, hcl, _⟩ := ask_0 he0
    have HOK := Lib.hid hok
    have hpl := pow_len hok
    have hca := List.all_eq_true.1 hcl a (by simp)
    have hcb := List.all_eq_true.1 hcl b (by simp)
    simp only [okC, Bool.and_eq_true, decide_eq_true_eq] at hca hcb
    obtain ⟨a0, a1⟩ := hca
    obtain ⟨b0, b1⟩ := hcb
    clear hcl
    by_cases hd : wdS m (allN m) a b ≤ width
    · have HF := Lib.hid (show reachE m a b width = 0 from by unfold reachE; rw [if_neg (by rw [he0]; simp), if_pos hd])
      have HD := Lib.hid (show decide (wdS m (allN m) a b ≤ width) = true from by simp [hd])
      clear he0 hd
      go_enter Try.func61, Try.ntmps61
      go_wp2_with fail
      refine hcalls.out.mono ?_
      rintro e w1 ⟨rfl, hb⟩
      rw [HE.out]
      have hB := bthen hB0 hb
      have m0 := below_cell hb HM0.out
      have m1 := below_cell hb HM1.out
      have m2 := below_cell hb HM2.out
      clear hcalls HM0 HM1 HM2 hB0 hb
      go_wp2_with fail
      go_region_held3 (fun w' => w'.cell? ⟨w.heap.size, 0, none⟩ = some (.int .i64 m.n) ∧ w'.cell? ⟨w.heap.size, 1, none⟩ = some (.slice ka m.ks.length kc) ∧ w'.cell? ⟨w.heap.size, 2, none⟩ = some (.slice oa m.os.length oc)) (first | go_keep | (go_split_ands; exact ⟨below_cell hb3 ‹_›, below_cell hb3 ‹_›, below_cell hb3 ‹_›⟩) | (go_split_ands; exact ⟨below_cell hb2 ‹_›, below_cell hb2 ‹_›, below_cell hb2 ‹_›⟩) | (go_split_ands; exact ⟨below_cell hb1 ‹_›, below_cell hb1 ‹_›, below_cell hb1 ‹_›⟩) | fail)
        (first
          | (go_at_call 62; refine (k_within m _ a b width _ (by exact HM.out.below (hB.drew)) HOK.out a0 a1 b0 b1).mono ?_; rintro e w2 ⟨fv, rfl, hW, hb1⟩; obtain ⟨g, cb, rfl, eg, hC⟩ := hW; unfold Enters at eg; have hfld := fld_want (.func (.func g) #[] cb))
          | (go_at_call 63; refine (k_everything m _ _ (by exact HM.out.below (hB.drew.trans (hb1.mono hB.size))) HOK.out).mono ?_; rintro e w3 ⟨rfl, hb2⟩)
          | (refine (hC _ (allN m) hb2 (allN_lt m)).mono ?_; rintro e w4 ⟨rfl, hb3⟩; simp only [HD.out]))
      go_wp2
      go_ret
      exact ⟨ret_int HF.out.symm, (hB.drew.trans ((bthen (bthen hb1 hb2) hb3).mono hB.size))⟩
    · have HF := Lib.hid (show reachE m a b width = 4 from by unfold reachE; rw [if_neg (by rw [he0]; simp), if_neg hd])
      have HD := Lib.hid (show decide (wdS m (allN m) a b ≤ width) = false from by simp [hd])
      clear he0 hd
      go_enter Try.func61, Try.ntmps61
      go_wp2_with fail
      refine hcalls.out.mono ?_
      rintro e w1 ⟨rfl, hb⟩
      rw [HE.out]
      have hB := bthen hB0 hb
      have m0 := below_cell hb HM0.out
      have m1 := below_cell hb HM1.out
      have m2 := below_cell hb HM2.out
      clear hcalls HM0 HM1 HM2 hB0 hb
      go_wp2_with fail
      go_region_held3 (fun w' => w'.cell? ⟨w.heap.size, 0, none⟩ = some (.int .i64 m.n) ∧ w'.cell? ⟨w.heap.size, 1, none⟩ = some (.slice ka m.ks.length kc) ∧ w'.cell? ⟨w.heap.size, 2, none⟩ = some (.slice oa m.os.length oc)) (first | go_keep | (go_split_ands; exact ⟨below_cell hb3 ‹_›, below_cell hb3 ‹_›, below_cell hb3 ‹_›⟩) | (go_split_ands; exact ⟨below_cell hb2 ‹_›, below_cell hb2 ‹_›, below_cell hb2 ‹_›⟩) | (go_split_ands; exact ⟨below_cell hb1 ‹_›, below_cell hb1 ‹_›, below_cell hb1 ‹_›⟩) | fail)
        (first
          | (go_at_call 62; refine (k_within m _ a b width _ (by exact HM.out.below (hB.drew)) HOK.out a0 a1 b0 b1).mono ?_; rintro e w2 ⟨fv, rfl, hW, hb1⟩; obtain ⟨g, cb, rfl, eg, hC⟩ := hW; unfold Enters at eg; have hfld := fld_want (.func (.func g) #[] cb))
          | (go_at_call 63; refine (k_everything m _ _ (by exact HM.out.below (hB.drew.trans (hb1.mono hB.size))) HOK.out).mono ?_; rintro e w3 ⟨rfl, hb2⟩)
          | (refine (hC _ (allN m) hb2 (allN_lt m)).mono ?_; rintro e w4 ⟨rfl, hb3⟩; simp only [HD.out]))
      go_wp2
      go_ret
      exact ⟨ret_int HF.out.symm, (hB.drew.trans ((bthen (bthen hb1 hb2) hb3).mono hB.size))⟩

theorem k_widthsM (s : Nat) (m : Mk) (mv : Value) (w : World) (hm : MkRd w m mv) (hok : m.ok = true) (hs : s < 2 ^ m.os.length) :
    Calls Try.prog 75 #[mv, .int .i64 s] w fun e w' => ∃ v, e = .returned v ∧ Tab w' w.heap.size v m.n.toNat (wd m.n.toNat (comps m (bits 12 s))) ∧ Below w.heap.size w w' := by
  obtain ⟨n, ks, os⟩ := m
  have h2 := (okM hok).n2
  simp only at h2
  obtain ⟨y, rfl⟩ := Int.eq_ofNat_of_zero_le (show 0 ≤ n by omega)
  exact k_widths s y ks os mv w hm hok hs
/-- The width of two clocks behind a list. -/
def wdL (m : Mk) (l : List Int) (a b : Int) : Int := wd m.n.toNat (comps m l) a.toNat b.toNat
def widthF (m : Mk) (l : List Int) (a b : Int) : Int × Bool × Int := if askE m l [a, b] [] ≠ 0 then (0, false, askE m l [a, b] []) else if 1099511627776 ≤ wdL m l a b then (0, false, 0) else (wdL m l a b, true, 0)
def costF (m : Mk) (l : List Int) : Int × Int := if askE m l [] [] ≠ 0 then (0, askE m l [] []) else (costL m.os l, 0)

set_option maxHeartbeats 4000000 in
set_option maxRecDepth 100000 in
theorem k_Width (m : Mk) (mv : Value) (l : List Int) (la : Option Addr) (lc : Nat) (a b : Int) (w : World) (hm : MkRd w m mv) (hl : RdI w la l) (hll : l.length ≤ 140737488355328) :
    Calls Try.prog 30 #[mv, .slice la l.length lc, .int .i64 a, .int .i64 b] w fun e w' => e = .returned (.tuple #[.int .i64 (widthF m l a b).1, .bool (widthF m l a b).2.1, .int .i64 (widthF m l a b).2.2]) ∧ Below w.heap.size w w' := by
  have HM := Lib.hid hm
  obtain ⟨ka, kc, oa, oc, rfl, _⟩ := hm
  have hB0 : Below w.heap.size w ((w.alloc (.cells #[.int .i64 m.n, .slice ka m.ks.length kc, .slice oa m.os.length oc] 24)).alloc (.cells #[.int .i64 a, .int .i64 b] 3)) := bal (bal (Below.refl _ _) _) _
  have hcalls := Lib.hid (k_asked m _ l [a, b] [] la (some ⟨w.heap.size + 1, 0, none⟩) none lc 2 0 _ (HM.out.below hB0) (hl.below hB0) (by simpa using rdI_new (w.alloc (.cells #[.int .i64 m.n, .slice ka m.ks.length kc, .slice oa m.os.length oc] 24)) [a, b] 3 : RdI _ (some ⟨w.heap.size + 1, 0, none⟩) [a, b]) Rd.nil hll (by simp) (by simp))
  have HM0 := Lib.hid (cal (show (w.alloc (.cells #[.int .i64 m.n, .slice ka m.ks.length kc, .slice oa m.os.length oc] 24)).cell? ⟨w.heap.size, 0, none⟩ = some (.int .i64 m.n) from by simp) (.cells #[.int .i64 a, .int .i64 b] 3))
  have HM1 := Lib.hid (cal (show (w.alloc (.cells #[.int .i64 m.n, .slice ka m.ks.length kc, .slice oa m.os.length oc] 24)).cell? ⟨w.heap.size, 1, none⟩ = some (.slice ka m.ks.length kc) from by simp) (.cells #[.int .i64 a, .int .i64 b] 3))
  have HM2 := Lib.hid (cal (show (w.alloc (.cells #[.int .i64 m.n, .slice ka m.ks.length kc, .slice oa m.os.length oc] 24)).cell? ⟨w.heap.size, 2, none⟩ = some (.slice oa m.os.length oc) from by simp) (.cells #[.int .i64 a, .int .i64 b] 3))
  by_cases he : askE m l [a, b] [] ≠ 0
  · have HF := Lib.hid (show widthF m l a b = (0, false, askE m l [a, b] []) from if_pos he)
    have HN := Lib.hid (show (askE m l [a, b] [] != 0) = true from by rw [bne_iff_ne]; exact he)
    have hne := HN.out
    have HE := Lib.hid he
    clear he
    go_enter Try.func30, Try.ntmps30
    go_wp2_with fail
    refine hcalls.out.mono ?_
    rintro e w1 ⟨rfl, hb⟩
    have hB := bthen hB0 hb
    have m0 := below_cell hb HM0.out
    have m1 := below_cell hb HM1.out
    have m2 := below_cell hb HM2.out
    clear hcalls HM0 HM1 HM2 hB0 hb
    clear m0 m1 m2
    go_wp2
    go_ret3
    rw [HF.out]
    exact ⟨rfl, hB⟩
  · have he0 : askE m l [a, b] [] = 0 := Decidable.of_not_not he
    have HE := Lib.hid he0
    clear he
    obtain ⟨hok, hright, hcl, _⟩ := ask_0 he0
    have HOK := Lib.hid hok
    have hpl := pow_len hok
    have hca := List.all_eq_true.1 hcl a (by simp)
    have hcb := List.all_eq_true.1 hcl b (by simp)
    simp only [okC, Bool.and_eq_true, decide_eq_true_eq] at hca hcb
    obtain ⟨a0, a1⟩ := hca
    obtain ⟨b0, b1⟩ := hcb
    clear hcl
    have h12 := (okM hok).o12
    have hln := right_len hright h12
    have hst := setN_two (right_bd hright)
    have hbs := bits_setN hright h12
    have hrb : ∀ x ∈ l, 0 ≤ x ∧ x < 12 := fun x hx => by have := right_bd hright x hx; omega
    have HRB := Lib.hid hrb
    have HRL := Lib.hid hl
    obtain ⟨Z, hZ⟩ : ∃ Z, Z = setN l := ⟨_, rfl⟩
    rw [← hZ] at hst hbs
    have HZ := Lib.hid hZ
    clear hZ hrb hright h12 hok
    obtain ⟨x, rfl⟩ := Int.eq_ofNat_of_zero_le a0
    obtain ⟨y, rfl⟩ := Int.eq_ofNat_of_zero_le b0
    have HWL := Lib.hid (show wdL m l (x : Int) (y : Int) = wd m.n.toNat (comps m l) x y from rfl)
    have HK := fun W (h : MkRd W m (.agg #[.int .i64 m.n, .slice ka m.ks.length kc, .slice oa m.os.length oc])) => k_widthsM Z m _ W h HOK.out hst
    rw [hbs] at HK
    obtain ⟨DD, hDD⟩ : ∃ DD, DD = wd m.n.toNat (comps m l) := ⟨_, rfl⟩
    rw [← hDD] at HK HWL
    have HKK := Lib.hid HK
    clear HK hbs hDD hl
    by_cases hd : 1099511627776 ≤ DD x y
    · have HF := Lib.hid (show widthF m l x y = (0, false, 0) from by unfold widthF; rw [if_neg (by rw [HE.out]; simp)]; rw [HWL.out]; exact if_pos hd)
      clear he0
      go_enter Try.func30, Try.ntmps30
      go_wp2_with fail
      refine hcalls.out.mono ?_
      rintro e w1 ⟨rfl, hb⟩
      rw [HE.out]
      have hB := bthen hB0 hb
      have m0 := below_cell hb HM0.out
      have m1 := below_cell hb HM1.out
      have m2 := below_cell hb HM2.out
      clear hcalls HM0 HM1 HM2 hB0 hb
      go_wp2_with fail
      go_region_held3 (fun w' => w'.cell? ⟨w.heap.size, 0, none⟩ = some (.int .i64 m.n) ∧ w'.cell? ⟨w.heap.size, 1, none⟩ = some (.slice ka m.ks.length kc) ∧ w'.cell? ⟨w.heap.size, 2, none⟩ = some (.slice oa m.os.length oc)) (first | go_keep | (go_split_ands; exact ⟨below_cell hb1 ‹_›, below_cell hb1 ‹_›, below_cell hb1 ‹_›⟩) | fail)
        (first
          | (go_at_call 84; refine (k_setOf l _ _ _ (by exact HRL.out.below hB.drew) HRB.out hln).mono ?_; rintro e wq ⟨rfl, rfl⟩; rw [← HZ.out])
          | (go_at_call 75; refine (HKK.out _ (by exact HM.out.below hB.drew)).mono ?_; rintro e w2 ⟨v, rfl, ⟨g, cap, f, c, rfl, hT⟩, hb1⟩))
      have hBz := hB.drew.trans (hb1.mono hB.size)
      have t1 := hT.row x (by omega)
      have t2 := hT.cell x y (by omega) (by omega)
      clear hT hb1 hB m0 m1 m2
      go_wp2
      go_ret3
      rw [HF.out]
      exact ⟨rfl, hBz⟩
    · have HF := Lib.hid (show widthF m l x y = (DD x y, true, 0) from by unfold widthF; rw [if_neg (by rw [HE.out]; simp)]; rw [HWL.out]; exact if_neg hd)
      clear he0
      go_enter Try.func30, Try.ntmps30
      go_wp2_with fail
      refine hcalls.out.mono ?_
      rintro e w1 ⟨rfl, hb⟩
      rw [HE.out]
      have hB := bthen hB0 hb
      have m0 := below_cell hb HM0.out
      have m1 := below_cell hb HM1.out
      have m2 := below_cell hb HM2.out
      clear hcalls HM0 HM1 HM2 hB0 hb
      go_wp2_with fail
      go_region_held3 (fun w' => w'.cell? ⟨w.heap.size, 0, none⟩ = some (.int .i64 m.n) ∧ w'.cell? ⟨w.heap.size, 1, none⟩ = some (.slice ka m.ks.length kc) ∧ w'.cell? ⟨w.heap.size, 2, none⟩ = some (.slice oa m.os.length oc)) (first | go_keep | (go_split_ands; exact ⟨below_cell hb1 ‹_›, below_cell hb1 ‹_›, below_cell hb1 ‹_›⟩) | fail)
        (first
          | (go_at_call 84; refine (k_setOf l _ _ _ (by exact HRL.out.below hB.drew) HRB.out hln).mono ?_; rintro e wq ⟨rfl, rfl⟩; rw [← HZ.out])
          | (go_at_call 75; refine (HKK.out _ (by exact HM.out.below hB.drew)).mono ?_; rintro e w2 ⟨v, rfl, ⟨g, cap, f, c, rfl, hT⟩, hb1⟩))
      have hBz := hB.drew.trans (hb1.mono hB.size)
      have t1 := hT.row x (by omega)
      have t2 := hT.cell x y (by omega) (by omega)
      clear hT hb1 hB m0 m1 m2
      go_wp2
      go_ret3
      rw [HF.out]
      exact ⟨rfl, hBz⟩

set_option maxHeartbeats 4000000 in
set_option maxRecDepth 100000 in
theorem k_Cost (m : Mk) (mv : Value) (l : List Int) (la : Option Addr) (lc : Nat) (w : World) (hm : MkRd w m mv) (hl : RdI w la l) (hll : l.length ≤ 140737488355328) :
    Calls Try.prog 34 #[mv, .slice la l.length lc] w fun e w' => e = .returned (.tuple #[.int .i64 (costF m l).1, .int .i64 (costF m l).2]) ∧ Below w.heap.size w w' := by
  have HM := Lib.hid hm
  obtain ⟨ka, kc, oa, oc, rfl, _⟩ := hm
  have hB0 : Below w.heap.size w (w.alloc (.cells #[.int .i64 m.n, .slice ka m.ks.length kc, .slice oa m.os.length oc] 24)) := bal (Below.refl _ _) _
  have hcalls := Lib.hid (k_asked m _ l [] [] la none none lc 0 0 _ (HM.out.below hB0) (hl.below hB0) Rd.nil Rd.nil hll (by simp) (by simp))
  have HM0 := Lib.hid (show (w.alloc (.cells #[.int .i64 m.n, .slice ka m.ks.length kc, .slice oa m.os.length oc] 24)).cell? ⟨w.heap.size, 0, none⟩ = some (.int .i64 m.n) from by simp)
  have HM1 := Lib.hid (show (w.alloc (.cells #[.int .i64 m.n, .slice ka m.ks.length kc, .slice oa m.os.length oc] 24)).cell? ⟨w.heap.size, 1, none⟩ = some (.slice ka m.ks.length kc) from by simp)
  have HM2 := Lib.hid (show (w.alloc (.cells #[.int .i64 m.n, .slice ka m.ks.length kc, .slice oa m.os.length oc] 24)).cell? ⟨w.heap.size, 2, none⟩ = some (.slice oa m.os.length oc) from by simp)
  by_cases he : askE m l [] [] ≠ 0
  · have HF := Lib.hid (show costF m l = (0, askE m l [] []) from if_pos he)
    have HN := Lib.hid (show (askE m l [] [] != 0) = true from by rw [bne_iff_ne]; exact he)
    have hne := HN.out
    have HE := Lib.hid he
    clear he
    go_enter Try.func34, Try.ntmps34
    go_wp2_with fail
    refine hcalls.out.mono ?_
    rintro e w1 ⟨rfl, hb⟩
    have hB := bthen hB0 hb
    have m0 := below_cell hb HM0.out
    have m1 := below_cell hb HM1.out
    have m2 := below_cell hb HM2.out
    clear hcalls HM0 HM1 HM2 hB0 hb
    clear m0 m1 m2
    go_wp2
    go_ret2
    rw [HF.out]
    exact ⟨rfl, hB⟩
  · have he0 : askE m l [] [] = 0 := Decidable.of_not_not he
    have HE := Lib.hid he0
    clear he
    obtain ⟨hok, hright, hcl, _⟩ := ask_0 he0
    have HOK := Lib.hid hok
    have hpl := pow_len hok
    clear hcl
    have h12 := (okM hok).o12
    have hln := right_len hright h12
    have hst := setN_two (right_bd hright)
    have hbs := bits_setN hright h12
    have hrb : ∀ x ∈ l, 0 ≤ x ∧ x < 12 := fun x hx => by have := right_bd hright x hx; omega
    have HRB := Lib.hid hrb
    have HRL := Lib.hid hl
    obtain ⟨Z, hZ⟩ : ∃ Z, Z = setN l := ⟨_, rfl⟩
    rw [← hZ] at hst hbs
    have HZ := Lib.hid hZ
    clear hZ hrb hright h12 hok
    have HK := fun W (h : MkRd W m (.agg #[.int .i64 m.n, .slice ka m.ks.length kc, .slice oa m.os.length oc])) => k_cost Z m _ W h HOK.out hst
    rw [hbs] at HK
    have HKK := Lib.hid HK
    have HF := Lib.hid (show costF m l = (costL m.os l, 0) from by unfold costF; rw [if_neg (by rw [he0]; simp)])
    clear HK hbs hl he0
    go_enter Try.func34, Try.ntmps34
    go_wp2_with fail
    refine hcalls.out.mono ?_
    rintro e w1 ⟨rfl, hb⟩
    rw [HE.out]
    have hB := bthen hB0 hb
    have m0 := below_cell hb HM0.out
    have m1 := below_cell hb HM1.out
    have m2 := below_cell hb HM2.out
    clear hcalls HM0 HM1 HM2 hB0 hb
    go_wp2_with fail
    go_region_held3 (fun w' => w'.cell? ⟨w.heap.size, 0, none⟩ = some (.int .i64 m.n) ∧ w'.cell? ⟨w.heap.size, 1, none⟩ = some (.slice ka m.ks.length kc) ∧ w'.cell? ⟨w.heap.size, 2, none⟩ = some (.slice oa m.os.length oc)) (first | go_keep | (go_split_ands; exact ⟨below_cell hb1 ‹_›, below_cell hb1 ‹_›, below_cell hb1 ‹_›⟩) | fail)
      (first
        | (go_at_call 84; refine (k_setOf l _ _ _ (by exact HRL.out.below hB.drew) HRB.out hln).mono ?_; rintro e wq ⟨rfl, rfl⟩; rw [← HZ.out])
        | (go_at_call 74; refine (HKK.out _ (by exact HM.out.below hB.drew)).mono ?_; rintro e w2 ⟨rfl, hb1⟩))
    have hBz := hB.drew.trans (hb1.mono hB.size)
    go_wp2
    go_ret2
    rw [HF.out]
    exact ⟨rfl, hBz⟩

end Go.Proofs.Ytjdldmecjhddnaa
