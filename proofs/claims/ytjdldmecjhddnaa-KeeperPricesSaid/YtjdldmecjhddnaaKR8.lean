/- The contracts of the reference's Needed, Least. -/
import Derived.Test.YtjdldmecjhddnaaKR7
import Derived.Test.YtjdldmecjhddnaaK11
namespace Go.Proofs.Ytjdldmecjhddnaa
open Go.RowKit
set_option linter.unusedVariables false
set_option linter.unusedSimpArgs false

set_option maxHeartbeats 4000000 in
set_option maxRecDepth 100000 in
theorem r_Needed (m : Mk) (mv : Value) (a b width : Int) (w : World) (hm : MkRd w m mv) :
    Calls Try.prog 16 #[mv, .int .i64 a, .int .i64 b, .int .i64 width] w fun e w' => ∃ v, e = .returned (.tuple #[v, .int .i64 (neededF m a b width).2]) ∧ OwnI w' w.heap.size v (neededF m a b width).1 ∧ Below w.heap.size w w' := by
  have HM := Lib.hid hm
  obtain ⟨ka, kc, oa, oc, rfl, _⟩ := hm
  have hB0 : Below w.heap.size w ((w.alloc (.cells #[.int .i64 m.n, .slice ka m.ks.length kc, .slice oa m.os.length oc] 24)).alloc (.cells #[.int .i64 a, .int .i64 b] 3)) := bal (bal (Below.refl _ _) _) _
  have hcalls := Lib.hid (r_ready m _ [] [a, b] width none (some ⟨w.heap.size + 1, 0, none⟩) 0 2 0 2 _ (HM.out.below hB0) rfl rfl Rd.nil (by simpa using rdI_new (w.alloc (.cells #[.int .i64 m.n, .slice ka m.ks.length kc, .slice oa m.os.length oc] 24)) [a, b] 3 : RdI _ (some ⟨w.heap.size + 1, 0, none⟩) [a, b]) (by decide) (by decide))
  have HM0 := Lib.hid (cal (show (w.alloc (.cells #[.int .i64 m.n, .slice ka m.ks.length kc, .slice oa m.os.length oc] 24)).cell? ⟨w.heap.size, 0, none⟩ = some (.int .i64 m.n) from by simp) (.cells #[.int .i64 a, .int .i64 b] 3))
  have HM1 := Lib.hid (cal (show (w.alloc (.cells #[.int .i64 m.n, .slice ka m.ks.length kc, .slice oa m.os.length oc] 24)).cell? ⟨w.heap.size, 1, none⟩ = some (.slice ka m.ks.length kc) from by simp) (.cells #[.int .i64 a, .int .i64 b] 3))
  have HM2 := Lib.hid (cal (show (w.alloc (.cells #[.int .i64 m.n, .slice ka m.ks.length kc, .slice oa m.os.length oc] 24)).cell? ⟨w.heap.size, 2, none⟩ = some (.slice oa m.os.length oc) from by simp) (.cells #[.int .i64 a, .int .i64 b] 3))
  by_cases he : askE m [] [a, b] [width] ≠ 0
  · have HF := Lib.hid (show neededF m a b width = ([], askE m [] [a, b] [width]) from by have hr : reachE m a b width = askE m [] [a, b] [width] := if_pos he; unfold neededF; rw [if_pos (by rw [hr]; exact he), hr])
    have hne : (askE m [] [a, b] [width] != 0) = true := by rw [bne_iff_ne]; exact he
    have HE := Lib.hid he
    clear he
    go_enter Try.func16, Try.ntmps16
    go_wp2_with fail
    refine hcalls.out.mono ?_
    rintro e w1 ⟨rfl, hb⟩
    have hB := bthen hB0 hb
    have m0 := below_cell hb HM0.out
    have m1 := below_cell hb HM1.out
    have m2 := below_cell hb HM2.out
    clear hcalls HM0 HM1 HM2 hB0 hb
    clear m0 m1 m2
    go_wp2
    go_ret2
    rw [HF.out]
    exact ⟨_, rfl, World.ownsRow_nil _ _ _ _, hB⟩
  · have he0 : askE m [] [a, b] [width] = 0 := Decidable.of_not_not he
    have HE := Lib.hid he0
    clear he
    obtain ⟨hok, hright, hcl, hsz⟩ := ask_0 he0
    have HOK := Lib.hid hok
    have ho12 := (okM hok).o12
    have hca := List.all_eq_true.1 hcl a (by simp)
    have hcb := List.all_eq_true.1 hcl b (by simp)
    simp only [okC, Bool.and_eq_true, decide_eq_true_eq] at hca hcb
    obtain ⟨a0, a1⟩ := hca
    obtain ⟨b0, b1⟩ := hcb
    clear hcl
    have hwd := okS_iff (by simpa using hsz)
    clear hsz hright hok
    obtain ⟨x, rfl⟩ := Int.eq_ofNat_of_zero_le a0
    obtain ⟨y, rfl⟩ := Int.eq_ofNat_of_zero_le b0
    by_cases hd : wdS m (allN m) x y ≤ width
    · have hr0 : reachE m x y width = 0 := by unfold reachE; rw [if_neg (by rw [he0]; simp), if_pos hd]
      have HF := Lib.hid (show neededF m x y width = (needL m x y width m.os.length, 0) from by unfold neededF; rw [if_neg (by rw [hr0]; simp)])
      clear hr0 he0
      have HW1 := Lib.hid (show decide (wdL m (bits 12 (allN m)) x y ≤ width) = true from by have : wdL m (bits 12 (allN m)) x y = wdS m (allN m) x y := rfl; rw [this]; simp [hd])
      clear hd
      go_enter Try.func16, Try.ntmps16
      go_wp2_with fail
      refine hcalls.out.mono ?_
      rintro e w1 ⟨rfl, hb⟩
      rw [HE.out]
      have hB := bthen hB0 hb
      have m0 := below_cell hb HM0.out
      have m1 := below_cell hb HM1.out
      have m2 := below_cell hb HM2.out
      clear hcalls HM0 HM1 HM2 hB0 hb
      go_wp2_with fail
      go_region_held3 (fun w' => w'.cell? ⟨w.heap.size, 0, none⟩ = some (.int .i64 m.n) ∧ w'.cell? ⟨w.heap.size, 1, none⟩ = some (.slice ka m.ks.length kc) ∧ w'.cell? ⟨w.heap.size, 2, none⟩ = some (.slice oa m.os.length oc)) (first | go_keep | (go_split_ands; exact ⟨below_cell hb3 ‹_›, below_cell hb3 ‹_›, below_cell hb3 ‹_›⟩) | (go_split_ands; exact ⟨below_cell hb2 ‹_›, below_cell hb2 ‹_›, below_cell hb2 ‹_›⟩) | (go_split_ands; exact ⟨below_cell hb1 ‹_›, below_cell hb1 ‹_›, below_cell hb1 ‹_›⟩) | fail)
        (first
          | (go_at_call 67; refine (r_whole m _ _ (by exact HM.out.below hB.drew) HOK.out).mono ?_; rintro e w2 ⟨rfl, hb1⟩)
          | (go_at_call 66; refine (r_List (allN m) m _ _ (by exact HM.out.below (hB.drew.trans (hb1.mono hB.drew.size))) ho12 (allN_lt m)).mono ?_; rintro e w3 ⟨v3, rfl, hown3, hb2⟩; obtain ⟨la3, lc3, hv3, hrd3⟩ := own_rdI hown3; subst hv3; clear hown3)
          | (go_at_call 65; refine (r_reaches m _ (bits 12 (allN m)) _ _ _ x y width width _ (by exact HM.out.below (hB.drew.trans ((bthen hb1 hb2).mono hB.drew.size))) rfl hrd3 HOK.out (bits_mem (allN_lt m)) (bits_len 12 _) a1 b1 (fun z => by omega)).mono ?_; rintro e w4 ⟨rfl, hb3⟩; rw [HW1.out]))
      have hbz := (Below.refl _ _).drew.trans (bthen (bthen hb1 hb2) hb3)
      replace m0 := below_cell hb3 (below_cell hb2 (below_cell hb1 (cdw m0)))
      replace m1 := below_cell hb3 (below_cell hb2 (below_cell hb1 (cdw m1)))
      replace m2 := below_cell hb3 (below_cell hb2 (below_cell hb1 (cdw m2)))
      have hBz := bthen hB hbz
      clear hb1 hb2 hb3 hrd3
      have hsz0 : w.heap.size < w4.heap.size := World.block_lt_of_cell? w4 _ m0
      clear hB
      go_wp2_with fail
      go_loopw [11, 12] (fun v i wr => ∃ k : Nat, k ≤ m.os.length ∧ i = .int .i64 k ∧ OwnI wr (w.heap.size + 1) v (needL m x y width k) ∧ wr.cell? ⟨w.heap.size, 0, none⟩ = some (.int .i64 m.n) ∧ wr.cell? ⟨w.heap.size, 1, none⟩ = some (.slice ka m.ks.length kc) ∧ wr.cell? ⟨w.heap.size, 2, none⟩ = some (.slice oa m.os.length oc) ∧ Below w.heap.size w wr) (fun _ i _ => m.os.length - (intOf i).toNat)
      case atStart => exact ⟨0, Nat.zero_le _, rfl, World.ownsRow_nil _ _ _ _, m0, m1, m2, hBz⟩
      case round =>
        clear m0 m1 m2 hBz hbz hsz0
        obtain ⟨k, hk1, rfl, hown, m0, m1, m2, hB⟩ := hrel
        have hsz0 : w.heap.size < wr.heap.size := World.block_lt_of_cell? wr _ m0
        by_cases hlt : k < m.os.length
        · have hnl := needL_len m x y width k
          have hand := Lib.hid (show Go.bits .andNot .i64 ((allN m : Nat) : Int) (IntKind.i64.wrap (2 ^ k)) = ((dropN m k : Nat) : Int) from bit_drop' m k ho12 hlt)
          cases hp : decide (wdS m (dropN m k) x y ≤ width)
          all_goals
            have HP := Lib.hid hp
            have HW2 := Lib.hid (show decide (wdL m (bits 12 (dropN m k)) x y ≤ width) = _ from hp)
            clear hp
            go_wp2
            go_region_held3 (fun w' => w'.cell? ⟨w.heap.size, 0, none⟩ = some (.int .i64 m.n) ∧ w'.cell? ⟨w.heap.size, 1, none⟩ = some (.slice ka m.ks.length kc) ∧ w'.cell? ⟨w.heap.size, 2, none⟩ = some (.slice oa m.os.length oc)) (first | go_keep | (go_split_ands; exact ⟨below_cell hb3 ‹_›, below_cell hb3 ‹_›, below_cell hb3 ‹_›⟩) | (go_split_ands; exact ⟨below_cell hb2 ‹_›, below_cell hb2 ‹_›, below_cell hb2 ‹_›⟩) | (go_split_ands; exact ⟨below_cell hb1 ‹_›, below_cell hb1 ‹_›, below_cell hb1 ‹_›⟩) | fail)
              (first
                | (go_at_call 67; refine (r_whole m _ _ (by exact HM.out.below hB.drew) HOK.out).mono ?_; rintro e w2 ⟨rfl, hb1⟩)
                | (go_at_call 66; rw [hand.out]; refine (r_List (dropN m k) m _ _ (by exact HM.out.below (hB.drew.trans (hb1.mono hB.drew.size))) ho12 (dropN_lt m k)).mono ?_; rintro e w3 ⟨v3, rfl, hown3, hb2⟩; obtain ⟨la3, lc3, hv3, hrd3⟩ := own_rdI hown3; subst hv3; clear hown3)
                | (go_at_call 65; refine (r_reaches m _ (bits 12 (dropN m k)) _ _ _ x y width width _ (by exact HM.out.below (hB.drew.trans ((bthen hb1 hb2).mono hB.drew.size))) rfl hrd3 HOK.out (bits_mem (dropN_lt m k)) (bits_len 12 _) a1 b1 (fun z => by omega)).mono ?_; rintro e w4 ⟨rfl, hb3⟩; rw [HW2.out]))
            have hbz := (Below.refl _ _).drew.trans (bthen (bthen hb1 hb2) hb3)
            replace m0 := below_cell hb3 (below_cell hb2 (below_cell hb1 (cdw m0)))
            replace m1 := below_cell hb3 (below_cell hb2 (below_cell hb1 (cdw m1)))
            replace m2 := below_cell hb3 (below_cell hb2 (below_cell hb1 (cdw m2)))
            have hBz := bthen hB hbz
            clear hb1 hb2 hb3 hrd3
            have hown2 := own_below hown hbz
            have hsz4 : w.heap.size < w4.heap.size := World.block_lt_of_cell? w4 _ m0
            clear hown hbz hB
          · go_wp2_with (at_builtin; refine ap1 rfl _ _ 27 rfl (w.heap.size + 1) 3 (.int .i64 0) 1 8 info_int Try.underlying27 rfl (by decide) (by decide) _ _ _ rfl hown2 [.int .i64 k] rfl rfl rfl (by omega) hsz4 ?_; intro v' w5 hown5 hgr hat hnn)
            go_roundw
            case rel => exact ⟨k + 1, by omega, by go_num, by rw [needL_yes HP.out]; unfold OwnI; simpa using hown5, grown_cell hgr m0 (by intro e; have := (hown2.lt _ e).1; simp at this; omega), grown_cell hgr m1 (by intro e; have := (hown2.lt _ e).1; simp at this; omega), grown_cell hgr m2 (by intro e; have := (hown2.lt _ e).1; simp at this; omega), hBz.grown hgr hBz.size (fun j e => by have := (hown2.lt j e).1; omega)⟩
            case measure => simp [intOf]; omega
          · go_wp2
            go_roundw
            case rel => exact ⟨k + 1, by omega, by go_num, by rw [needL_no HP.out]; exact hown2, m0, m1, m2, hBz⟩
            case measure => simp [intOf]; omega
        · obtain rfl : k = m.os.length := by omega
          go_wp2
          go_ret2
          rw [HF.out]
          exact ⟨_, rfl, hown.mono_base (by omega), hB⟩
    · have hr0 : reachE m x y width = 4 := by unfold reachE; rw [if_neg (by rw [he0]; simp), if_neg hd]
      have HF := Lib.hid (show neededF m x y width = ([], 4) from by unfold neededF; rw [if_pos (by rw [hr0]; decide), hr0])
      clear hr0 he0
      have HW1 := Lib.hid (show decide (wdL m (bits 12 (allN m)) x y ≤ width) = false from by have : wdL m (bits 12 (allN m)) x y = wdS m (allN m) x y := rfl; rw [this]; simp [hd])
      clear hd
      go_enter Try.func16, Try.ntmps16
      go_wp2_with fail
      refine hcalls.out.mono ?_
      rintro e w1 ⟨rfl, hb⟩
      rw [HE.out]
      have hB := bthen hB0 hb
      have m0 := below_cell hb HM0.out
      have m1 := below_cell hb HM1.out
      have m2 := below_cell hb HM2.out
      clear hcalls HM0 HM1 HM2 hB0 hb
      go_wp2_with fail
      go_region_held3 (fun w' => w'.cell? ⟨w.heap.size, 0, none⟩ = some (.int .i64 m.n) ∧ w'.cell? ⟨w.heap.size, 1, none⟩ = some (.slice ka m.ks.length kc) ∧ w'.cell? ⟨w.heap.size, 2, none⟩ = some (.slice oa m.os.length oc)) (first | go_keep | (go_split_ands; exact ⟨below_cell hb3 ‹_›, below_cell hb3 ‹_›, below_cell hb3 ‹_›⟩) | (go_split_ands; exact ⟨below_cell hb2 ‹_›, below_cell hb2 ‹_›, below_cell hb2 ‹_›⟩) | (go_split_ands; exact ⟨below_cell hb1 ‹_›, below_cell hb1 ‹_›, below_cell hb1 ‹_›⟩) | fail)
        (first
          | (go_at_call 67; refine (r_whole m _ _ (by exact HM.out.below hB.drew) HOK.out).mono ?_; rintro e w2 ⟨rfl, hb1⟩)
          | (go_at_call 66; refine (r_List (allN m) m _ _ (by exact HM.out.below (hB.drew.trans (hb1.mono hB.drew.size))) ho12 (allN_lt m)).mono ?_; rintro e w3 ⟨v3, rfl, hown3, hb2⟩; obtain ⟨la3, lc3, hv3, hrd3⟩ := own_rdI hown3; subst hv3; clear hown3)
          | (go_at_call 65; refine (r_reaches m _ (bits 12 (allN m)) _ _ _ x y width width _ (by exact HM.out.below (hB.drew.trans ((bthen hb1 hb2).mono hB.drew.size))) rfl hrd3 HOK.out (bits_mem (allN_lt m)) (bits_len 12 _) a1 b1 (fun z => by omega)).mono ?_; rintro e w4 ⟨rfl, hb3⟩; rw [HW1.out]))
      have hbz := (Below.refl _ _).drew.trans (bthen (bthen hb1 hb2) hb3)
      replace m0 := below_cell hb3 (below_cell hb2 (below_cell hb1 (cdw m0)))
      replace m1 := below_cell hb3 (below_cell hb2 (below_cell hb1 (cdw m1)))
      replace m2 := below_cell hb3 (below_cell hb2 (below_cell hb1 (cdw m2)))
      have hBz := bthen hB hbz
      clear hb1 hb2 hb3 hrd3
      go_wp2
      go_ret2
      rw [HF.out]
      exact ⟨_, rfl, World.ownsRow_nil _ _ _ _, hBz⟩

set_option maxHeartbeats 4000000 in
set_option maxRecDepth 100000 in
theorem r_Least (m : Mk) (mv : Value) (a b c : Int) (w : World) (hm : MkRd w m mv) :
    Calls Try.prog 20 #[mv, .int .i64 a, .int .i64 b, .int .i64 c] w fun e w' => e = .returned (.tuple #[.int .i64 (leastF m a b c).1, .bool (leastF m a b c).2.1, .int .i64 (leastF m a b c).2.2]) ∧ Below w.heap.size w w' := by
  have HM := Lib.hid hm
  obtain ⟨ka, kc, oa, oc, rfl, _⟩ := hm
  have hB0 : Below w.heap.size w ((w.alloc (.cells #[.int .i64 m.n, .slice ka m.ks.length kc, .slice oa m.os.length oc] 24)).alloc (.cells #[.int .i64 a, .int .i64 b] 3)) := bal (bal (Below.refl _ _) _) _
  have hcalls := Lib.hid (r_ready m _ [] [a, b] c none (some ⟨w.heap.size + 1, 0, none⟩) 0 2 0 2 _ (HM.out.below hB0) rfl rfl Rd.nil (by simpa using rdI_new (w.alloc (.cells #[.int .i64 m.n, .slice ka m.ks.length kc, .slice oa m.os.length oc] 24)) [a, b] 3 : RdI _ (some ⟨w.heap.size + 1, 0, none⟩) [a, b]) (by decide) (by decide))
  have HM0 := Lib.hid (cal (show (w.alloc (.cells #[.int .i64 m.n, .slice ka m.ks.length kc, .slice oa m.os.length oc] 24)).cell? ⟨w.heap.size, 0, none⟩ = some (.int .i64 m.n) from by simp) (.cells #[.int .i64 a, .int .i64 b] 3))
  have HM1 := Lib.hid (cal (show (w.alloc (.cells #[.int .i64 m.n, .slice ka m.ks.length kc, .slice oa m.os.length oc] 24)).cell? ⟨w.heap.size, 1, none⟩ = some (.slice ka m.ks.length kc) from by simp) (.cells #[.int .i64 a, .int .i64 b] 3))
  have HM2 := Lib.hid (cal (show (w.alloc (.cells #[.int .i64 m.n, .slice ka m.ks.length kc, .slice oa m.os.length oc] 24)).cell? ⟨w.heap.size, 2, none⟩ = some (.slice oa m.os.length oc) from by simp) (.cells #[.int .i64 a, .int .i64 b] 3))
  by_cases he : askE m [] [a, b] [c] ≠ 0
  · have HF := Lib.hid (show leastF m a b c = (0, false, askE m [] [a, b] [c]) from if_pos he)
    have hne : (askE m [] [a, b] [c] != 0) = true := by rw [bne_iff_ne]; exact he
    have HE := Lib.hid he
    clear he
    go_enter Try.func20, Try.ntmps20
    go_wp2_with fail
    refine hcalls.out.mono ?_
    rintro e w1 ⟨rfl, hb⟩
    have hB := bthen hB0 hb
    have m0 := below_cell hb HM0.out
    have m1 := below_cell hb HM1.out
    have m2 := below_cell hb HM2.out
    clear hcalls HM0 HM1 HM2 hB0 hb
    clear m0 m1 m2
    go_wp2
    go_ret3
    rw [HF.out]
    exact ⟨rfl, hB⟩
  · have he0 : askE m [] [a, b] [c] = 0 := Decidable.of_not_not he
    have HE := Lib.hid he0
    clear he
    obtain ⟨hok, hright, hcl, hsz⟩ := ask_0 he0
    have HOK := Lib.hid hok
    have ho12 := (okM hok).o12
    have hca := List.all_eq_true.1 hcl a (by simp)
    have hcb := List.all_eq_true.1 hcl b (by simp)
    simp only [okC, Bool.and_eq_true, decide_eq_true_eq] at hca hcb
    obtain ⟨a0, a1⟩ := hca
    obtain ⟨b0, b1⟩ := hcb
    clear hcl
    have hcc := okS_iff (by simpa using hsz)
    clear hsz hright hok
    obtain ⟨x, rfl⟩ := Int.eq_ofNat_of_zero_le a0
    obtain ⟨y, rfl⟩ := Int.eq_ofNat_of_zero_le b0
    have hsh := shl_len m.os.length ho12
    rw [Nat.min_eq_left (show m.os.length ≤ 64 by omega)] at hsh
    have hpl := pow_len HOK.out
    obtain ⟨N, hN⟩ : ∃ N, N = 2 ^ m.os.length := ⟨_, rfl⟩
    rw [← hN] at hsh hpl
    have HN := Lib.hid hN
    clear hN
    have HF := Lib.hid (show leastF m x y c = if 1099511627776 ≤ minN m x y c N then (0, false, 0) else (minN m x y c N, true, 0) from by unfold leastF; rw [if_neg (by rw [HE.out]; simp), HN.out])
    clear he0
    go_enter Try.func20, Try.ntmps20
    go_wp2_with fail
    refine hcalls.out.mono ?_
    rintro e w1 ⟨rfl, hb⟩
    rw [HE.out]
    have hB := bthen hB0 hb
    have m0 := below_cell hb HM0.out
    have m1 := below_cell hb HM1.out
    have m2 := below_cell hb HM2.out
    clear hcalls HM0 HM1 HM2 hB0 hb
    go_wp2_with fail
    go_loopw [12, 13] (fun v i wr => ∃ k : Nat, k ≤ N ∧ i = .int .i64 k ∧ v = .int .i64 (minN m x y c k) ∧ wr.cell? ⟨w.heap.size, 0, none⟩ = some (.int .i64 m.n) ∧ wr.cell? ⟨w.heap.size, 1, none⟩ = some (.slice ka m.ks.length kc) ∧ wr.cell? ⟨w.heap.size, 2, none⟩ = some (.slice oa m.os.length oc) ∧ Below w.heap.size w wr) (fun _ i _ => N - (intOf i).toNat)
    case atStart => exact ⟨0, Nat.zero_le _, rfl, rfl, m0, m1, m2, hB⟩
    case round =>
      clear m0 m1 m2 hB
      obtain ⟨k, hk1, rfl, rfl, m0, m1, m2, hB⟩ := hrel
      by_cases hlt : k < N
      · have hkN : Hid (k < 2 ^ m.os.length) := Lib.hid (by rw [← HN.out]; exact hlt)
        obtain ⟨C, hC⟩ : ∃ C, Hid (C = costL m.os (bits 12 k)) := ⟨_, Lib.hid rfl⟩
        by_cases hc : C ≤ c
        · have hwd : Hid (wdS m k x y = wdL m (bits 12 k) x y) := Lib.hid rfl
          obtain ⟨D, hD⟩ : ∃ D, Hid (D = wdL m (bits 12 k) x y) := ⟨_, Lib.hid rfl⟩
          have hms : Hid (minN m x y c (k + 1) = if D < minN m x y c k then D else minN m x y c k) := Lib.hid (by rw [minN, if_pos (by rw [← hC.out]; exact hc), hwd.out, hD.out])
          go_wp2_with fail
          refine (r_List k m _ _ (by exact HM.out.below hB) ho12 hkN.out).mono ?_
          rintro e w2 ⟨v2, rfl, hown, hb1⟩
          obtain ⟨la, lc, hv2, hrd⟩ := own_rdI hown
          subst hv2
          have hB2 := bthen hB hb1
          replace m0 := below_cell hb1 m0
          replace m1 := below_cell hb1 m1
          replace m2 := below_cell hb1 m2
          have HRD := Lib.hid hrd
          clear hown hb1 hB hrd
          go_wp2_with fail
          refine (r_cost m _ (bits 12 k) _ _ _ _ (by exact HM.out.below hB2) rfl HRD.out HOK.out (bits_mem hkN.out) (bits_len 12 k)).mono ?_
          rintro e w3 ⟨rfl, hb1⟩
          rw [← hC.out]
          have hB3 := bthen hB2 hb1
          replace m0 := below_cell hb1 m0
          replace m1 := below_cell hb1 m1
          replace m2 := below_cell hb1 m2
          replace HRD := Lib.hid (HRD.out.below hb1)
          clear hb1 hB2
          go_wp2_with fail
          refine (r_width m _ (bits 12 k) _ _ _ x y _ (by exact HM.out.below hB3) rfl HRD.out HOK.out (bits_mem hkN.out) (bits_len 12 k) a1 b1).mono ?_
          rintro e w4 ⟨rfl, hb1⟩
          rw [← hD.out]
          have hB4 := bthen hB3 hb1
          replace m0 := below_cell hb1 m0
          replace m1 := below_cell hb1 m1
          replace m2 := below_cell hb1 m2
          replace HRD := Lib.hid (HRD.out.below hb1)
          clear hb1 hB3
          by_cases hmn : D < minN m x y c k
          · go_wp2
            go_roundw
            case rel => exact ⟨k + 1, by omega, by go_num, by rw [hms.out, if_pos hmn], m0, m1, m2, hB4⟩
            case measure => simp [intOf]; omega
          · go_wp2
            go_roundw
            case rel => exact ⟨k + 1, by omega, by go_num, by rw [hms.out, if_neg (by omega)], m0, m1, m2, hB4⟩
            case measure => simp [intOf]; omega
        · have hms : Hid (minN m x y c (k + 1) = minN m x y c k) := Lib.hid (by rw [minN, if_neg (by rw [← hC.out]; exact hc)])
          go_wp2_with fail
          refine (r_List k m _ _ (by exact HM.out.below hB) ho12 hkN.out).mono ?_
          rintro e w2 ⟨v2, rfl, hown, hb1⟩
          obtain ⟨la, lc, hv2, hrd⟩ := own_rdI hown
          subst hv2
          have hB2 := bthen hB hb1
          replace m0 := below_cell hb1 m0
          replace m1 := below_cell hb1 m1
          replace m2 := below_cell hb1 m2
          have HRD := Lib.hid hrd
          clear hown hb1 hB hrd
          go_wp2_with fail
          refine (r_cost m _ (bits 12 k) _ _ _ _ (by exact HM.out.below hB2) rfl HRD.out HOK.out (bits_mem hkN.out) (bits_len 12 k)).mono ?_
          rintro e w3 ⟨rfl, hb1⟩
          rw [← hC.out]
          have hB3 := bthen hB2 hb1
          replace m0 := below_cell hb1 m0
          replace m1 := below_cell hb1 m1
          replace m2 := below_cell hb1 m2
          replace HRD := Lib.hid (HRD.out.below hb1)
          clear hb1 hB2
          go_wp2
          go_roundw
          case rel => exact ⟨k + 1, by omega, by go_num, by rw [hms.out], m0, m1, m2, hB3⟩
          case measure => simp [intOf]; omega
      · obtain rfl : k = N := by omega
        by_cases hmn : 1099511627776 ≤ minN m x y c k
        · go_wp2
          go_ret3
          rw [HF.out, if_pos hmn]
          exact ⟨rfl, hB⟩
        · go_wp2
          go_ret3
          rw [HF.out, if_neg (by omega)]
          exact ⟨rfl, hB⟩

end Go.Proofs.Ytjdldmecjhddnaa
