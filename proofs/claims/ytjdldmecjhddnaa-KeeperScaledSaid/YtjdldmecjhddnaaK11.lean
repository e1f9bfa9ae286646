/- The contracts of keeper.Needed, Least. -/
import Derived.Test.YtjdldmecjhddnaaK10
namespace Go.Proofs.Ytjdldmecjhddnaa
open Go.RowKit
set_option linter.unusedVariables false
set_option linter.unusedSimpArgs false

theorem reach_0 {m : Mk} {a b width : Int} (h : reachE m a b width = 0) : askE m [] [a, b] [width] = 0 ∧ wdS m (allN m) a b ≤ width := by
  unfold reachE at h
  split at h
  · rename_i h2; exact absurd h h2
  · rename_i h2
    split at h
    · exact ⟨Decidable.of_not_not h2, by assumption⟩
    · cases h
/-- All offers but one. -/
def dropN (m : Mk) (k : Nat) : Nat := 2 ^ m.os.length - 1 - 2 ^ k
theorem dropN_lt (m : Mk) (k : Nat) : dropN m k < 2 ^ m.os.length := by
  have := Nat.two_pow_pos m.os.length
  unfold dropN
  generalize 2 ^ k = z
  omega
theorem bit_drop1 : ∀ n : Fin 13, ∀ k : Fin 12, k.val < n.val → Go.bits .andNot .i64 (((2 ^ n.val - 1 : Nat) : Int)) (((2 ^ k.val : Nat) : Int)) = ((2 ^ n.val - 1 - 2 ^ k.val : Nat) : Int) := by decide +kernel
theorem wrap_pow {k : Nat} (h : k < 12) : wrap64 (2 ^ k) = ((2 ^ k : Nat) : Int) := by
  have : ((2 : Int) ^ k) = ((2 ^ k : Nat) : Int) := by simp
  rw [this]
  have h1 : 2 ^ k ≤ 2 ^ 12 := Nat.pow_le_pow_right (by decide) (by omega)
  generalize 2 ^ k = z at *
  unfold wrap64; omega
theorem bit_drop (m : Mk) (k : Nat) (hn : m.os.length ≤ 12) (hk : k < m.os.length) : Go.bits .andNot .i64 ((allN m : Nat) : Int) (wrap64 (2 ^ k)) = ((dropN m k : Nat) : Int) := by
  rw [wrap_pow (by omega)]
  exact bit_drop1 ⟨m.os.length, by omega⟩ ⟨k, by omega⟩ hk
theorem bit_drop' (m : Mk) (k : Nat) (hn : m.os.length ≤ 12) (hk : k < m.os.length) : Go.bits .andNot .i64 ((allN m : Nat) : Int) (IntKind.i64.wrap (2 ^ k)) = ((dropN m k : Nat) : Int) := by
  rw [IntWalk.i64_left]
  exact bit_drop m k hn hk
def needL (m : Mk) (a b width : Int) (k : Nat) : List Int := ((List.range k).filter fun i => !decide (wdS m (dropN m i) a b ≤ width)).map Int.ofNat
theorem needL_len (m : Mk) (a b width : Int) (k : Nat) : (needL m a b width k).length ≤ k := by
  unfold needL
  rw [List.length_map]
  exact Nat.le_trans (List.length_filter_le _ _) (by simp)
theorem needL_no {m : Mk} {a b width : Int} {k : Nat} (h : decide (wdS m (dropN m k) a b ≤ width) = true) : needL m a b width (k + 1) = needL m a b width k := by
  unfold needL
  rw [List.range_succ, List.filter_append, List.map_append, List.filter_cons_of_neg (by rw [h]; decide)]
  simp
theorem needL_yes {m : Mk} {a b width : Int} {k : Nat} (h : decide (wdS m (dropN m k) a b ≤ width) = false) : needL m a b width (k + 1) = needL m a b width k ++ [(k : Int)] := by
  unfold needL
  rw [List.range_succ, List.filter_append, List.map_append, List.filter_cons_of_pos (by rw [h]; decide)]
  simp
def neededF (m : Mk) (a b width : Int) : List Int × Int := if reachE m a b width ≠ 0 then ([], reachE m a b width) else (needL m a b width m.os.length, 0)

set_option maxHeartbeats 4000000 in
set_option maxRecDepth 100000 in
theorem k_Needed (m : Mk) (mv : Value) (a b width : Int) (w : World) (hm : MkRd w m mv) :
    Calls Try.prog 15 #[mv, .int .i64 a, .int .i64 b, .int .i64 width] w fun e w' => ∃ v, e = .returned (.tuple #[v, .int .i64 (neededF m a b width).2]) ∧ OwnI w' w.heap.size v (neededF m a b width).1 ∧ Below w.heap.size w w' := by
  have HM := Lib.hid hm
  obtain ⟨ka, kc, oa, oc, rfl, _⟩ := hm
  have hB0 : Below w.heap.size w (w.alloc (.cells #[.int .i64 m.n, .slice ka m.ks.length kc, .slice oa m.os.length oc] 24)) := bal (Below.refl _ _) _
  have hcalls := Lib.hid (k_reachable m _ a b width _ (HM.out.below hB0))
  have HM0 := Lib.hid (show (w.alloc (.cells #[.int .i64 m.n, .slice ka m.ks.length kc, .slice oa m.os.length oc] 24)).cell? ⟨w.heap.size, 0, none⟩ = some (.int .i64 m.n) from by simp)
  have HM1 := Lib.hid (show (w.alloc (.cells #[.int .i64 m.n, .slice ka m.ks.length kc, .slice oa m.os.length oc] 24)).cell? ⟨w.heap.size, 1, none⟩ = some (.slice ka m.ks.length kc) from by simp)
  have HM2 := Lib.hid (show (w.alloc (.cells #[.int .i64 m.n, .slice ka m.ks.length kc, .slice oa m.os.length oc] 24)).cell? ⟨w.heap.size, 2, none⟩ = some (.slice oa m.os.length oc) from by simp)
  by_cases he : reachE m a b width ≠ 0
  · have HF := Lib.hid (show neededF m a b width = ([], reachE m a b width) from if_pos he)
    have HN := Lib.hid (show (reachE m a b width != 0) = true from by rw [bne_iff_ne]; exact he)
    have hne := HN.out
    have HE := Lib.hid he
    clear he
    go_enter Try.func15, Try.ntmps15
    go_wp2_with fail
    refine hcalls.out.mono ?_
    rintro e w1 ⟨rfl, hb⟩
    have hB := bthen hB0 hb
    have m0 := below_cell hb HM0.out
    have m1 := below_cell hb HM1.out
    have m2 := below_cell hb HM2.out
    clear hcalls HM0 HM1 HM2 hB0 hb
    clear m0 m1 m2
    go_wp2
    go_ret2
    rw [HF.out]
    exact ⟨_, rfl, World.ownsRow_nil _ _ _ _, hB⟩
  · have he0 : reachE m a b width = 0 := Decidable.of_not_not he
    have HE := Lib.hid he0
    clear he
    obtain ⟨hask, hall⟩ := reach_0 he0
    have he0 := hask
    obtain ⟨hok, hright, hcl, _⟩ := ask_0 he0
    have HOK := Lib.hid hok
    have hpl := pow_len hok
    have hca := List.all_eq_true.1 hcl a (by simp)
    have hcb := List.all_eq_true.1 hcl b (by simp)
    simp only [okC, Bool.and_eq_true, decide_eq_true_eq] at hca hcb
    obtain ⟨a0, a1⟩ := hca
    obtain ⟨b0, b1⟩ := hcb
    clear hcl
    have h12 := (okM hok).o12
    have HF := Lib.hid (show neededF m a b width = (needL m a b width m.os.length, 0) from by unfold neededF; rw [if_neg (by rw [HE.out]; simp)])
    clear he0 hask hall hok hright
    go_enter Try.func15, Try.ntmps15
    go_wp2_with fail
    refine hcalls.out.mono ?_
    rintro e w1 ⟨rfl, hb⟩
    rw [HE.out]
    have hB := bthen hB0 hb
    have m0 := below_cell hb HM0.out
    have m1 := below_cell hb HM1.out
    have m2 := below_cell hb HM2.out
    clear hcalls HM0 HM1 HM2 hB0 hb
    go_wp2_with fail
    refine (k_within m _ a b width _ (by exact HM.out.below hB) HOK.out a0 a1 b0 b1).mono ?_
    rintro e w2 ⟨fv, rfl, hW, hb1⟩
    obtain ⟨g, cb, rfl, eg, hC⟩ := hW
    unfold Enters at eg
    have hB2 := bthen hB hb1
    replace m0 := below_cell hb1 m0
    replace m1 := below_cell hb1 m1
    replace m2 := below_cell hb1 m2
    have hlt0 : w.heap.size < w2.heap.size := World.block_lt_of_cell? w2 _ m0
    clear hb1 hB
    go_wp2_with fail
    have hBB := Lib.hid (bal hB2 (.cells #[.func (.func g) #[] cb] 90))
    have hBA := Lib.hid (bal (Below.refl w2.heap.size w2) (.cells #[.func (.func g) #[] cb] 90))
    have M0 := Lib.hid (cal m0 (.cells #[.func (.func g) #[] cb] 90))
    have M1 := Lib.hid (cal m1 (.cells #[.func (.func g) #[] cb] 90))
    have M2 := Lib.hid (cal m2 (.cells #[.func (.func g) #[] cb] 90))
    have M3 := Lib.hid (show (w2.alloc (.cells #[.func (.func g) #[] cb] 90)).cell? ⟨w2.heap.size, 0, none⟩ = some (.func (.func g) #[] cb) from by simp)
    clear m0 m1 m2
    go_loopw [12, 30] (fun v i wr => ∃ k : Nat, k ≤ m.os.length ∧ i = .int .i64 k ∧ OwnI wr (w2.heap.size + 1) v (needL m a b width k) ∧ Below (w2.alloc (.cells #[.func (.func g) #[] cb] 90)).heap.size (w2.alloc (.cells #[.func (.func g) #[] cb] 90)) wr) (fun _ i _ => m.os.length - (intOf i).toNat)
    case atStart => exact ⟨0, Nat.zero_le _, rfl, World.ownsRow_nil _ _ _ _, Below.refl _ _⟩
    case round =>
      obtain ⟨k, hk1, rfl, hown, hBz⟩ := hrel
      have hBw := bthen hBB.out hBz
      by_cases hlt : k < m.os.length
      · have hBC := bthen hBA.out hBz
        have hnl := needL_len m a b width k
        have p0 := below_cell hBz M0.out
        have p1 := below_cell hBz M1.out
        have p2 := below_cell hBz M2.out
        have p3 := below_cell hBz M3.out
        cases hp : decide (wdS m (dropN m k) a b ≤ width) with
        | true =>
          have HP := Lib.hid hp
          clear hp
          have hand := Lib.hid (show Go.bits .andNot .i64 ((allN m : Nat) : Int) (IntKind.i64.wrap (2 ^ k)) = ((dropN m k : Nat) : Int) from bit_drop' m k h12 hlt)
          go_wp2
          go_region_held3 (fun w' => w'.cell? ⟨w.heap.size, 0, none⟩ = some (.int .i64 m.n) ∧ w'.cell? ⟨w.heap.size, 1, none⟩ = some (.slice ka m.ks.length kc) ∧ w'.cell? ⟨w.heap.size, 2, none⟩ = some (.slice oa m.os.length oc) ∧ w'.cell? ⟨w2.heap.size, 0, none⟩ = some (.func (.func g) #[] cb)) (first | go_keep | (go_split_ands; exact ⟨below_cell hb3 ‹_›, below_cell hb3 ‹_›, below_cell hb3 ‹_›, below_cell hb3 ‹_›⟩) | (go_split_ands; exact ⟨below_cell hb2 ‹_›, below_cell hb2 ‹_›, below_cell hb2 ‹_›, below_cell hb2 ‹_›⟩) | fail)
            (first
              | (go_at_call 63; refine (k_everything m _ _ (by exact HM.out.below hBw.drew) HOK.out).mono ?_; rintro e w3 ⟨rfl, hb2⟩; skip)
              | (rw [hand.out]; refine (hC _ (dropN m k) (hBC.drew.trans (hb2.mono hBC.size)) (dropN_lt m k)).mono ?_; rintro e w4 ⟨rfl, hb3⟩; simp only [HP.out]))
          have hBy := hBz.drew.trans ((bthen hb2 hb3).mono hBz.size)
          have hown2 := own_below hown (Below.drew (Below.refl _ _) |>.trans (bthen hb2 hb3))
          clear p0 p1 p2 p3 hb2 hb3
          go_wp2
          go_roundw
          case rel => exact ⟨k + 1, by omega, by go_num, by rw [needL_no HP.out]; exact hown2, hBy⟩
          case measure => simp [intOf]; omega
        | false =>
          have HP := Lib.hid hp
          clear hp
          have hand := Lib.hid (show Go.bits .andNot .i64 ((allN m : Nat) : Int) (IntKind.i64.wrap (2 ^ k)) = ((dropN m k : Nat) : Int) from bit_drop' m k h12 hlt)
          go_wp2
          go_region_held3 (fun w' => w'.cell? ⟨w.heap.size, 0, none⟩ = some (.int .i64 m.n) ∧ w'.cell? ⟨w.heap.size, 1, none⟩ = some (.slice ka m.ks.length kc) ∧ w'.cell? ⟨w.heap.size, 2, none⟩ = some (.slice oa m.os.length oc) ∧ w'.cell? ⟨w2.heap.size, 0, none⟩ = some (.func (.func g) #[] cb)) (first | go_keep | (go_split_ands; exact ⟨below_cell hb3 ‹_›, below_cell hb3 ‹_›, below_cell hb3 ‹_›, below_cell hb3 ‹_›⟩) | (go_split_ands; exact ⟨below_cell hb2 ‹_›, below_cell hb2 ‹_›, below_cell hb2 ‹_›, below_cell hb2 ‹_›⟩) | fail)
            (first
              | (go_at_call 63; refine (k_everything m _ _ (by exact HM.out.below hBw.drew) HOK.out).mono ?_; rintro e w3 ⟨rfl, hb2⟩; skip)
              | (rw [hand.out]; refine (hC _ (dropN m k) (hBC.drew.trans (hb2.mono hBC.size)) (dropN_lt m k)).mono ?_; rintro e w4 ⟨rfl, hb3⟩; simp only [HP.out]))
          have hBy := hBz.drew.trans ((bthen hb2 hb3).mono hBz.size)
          have hown2 := own_below hown (Below.drew (Below.refl _ _) |>.trans (bthen hb2 hb3))
          clear p0 p1 p2 p3 hb2 hb3
          go_wp2_with (at_builtin; refine ap1 rfl _ _ 27 rfl (w2.heap.size + 1) 3 (.int .i64 0) 1 8 info_int Try.underlying27 rfl (by decide) (by decide) _ _ _ rfl hown2 [.int .i64 k] rfl rfl rfl (by omega) (by have := hBy.size; simpa using this) ?_; intro v' w5 hown5 hgr hat hnn)
          go_roundw
          case rel => exact ⟨k + 1, by omega, by go_num, by rw [needL_yes HP.out]; unfold OwnI; simpa using hown5, hBy.grown hgr hBy.size (fun j e => by have := (hown2.lt j e).1; simpa using this)⟩
          case measure => simp [intOf]; omega
      · obtain rfl : k = m.os.length := by omega
        go_wp2
        go_ret2
        rw [HF.out]
        exact ⟨_, rfl, hown.mono_base (by have := hB2.size; omega), hBw⟩

/-- The least width for a cost, among the sets below k. -/
def minN (m : Mk) (a b c : Int) : Nat → Int
  | 0 => 1099511627776
  | k + 1 => if costL m.os (bits 12 k) ≤ c then (if wdS m k a b < minN m a b c k then wdS m k a b else minN m a b c k) else minN m a b c k
def leastF (m : Mk) (a b c : Int) : Int × Bool × Int := if askE m [] [a, b] [c] ≠ 0 then (0, false, askE m [] [a, b] [c]) else if 1099511627776 ≤ minN m a b c (2 ^ m.os.length) then (0, false, 0) else (minN m a b c (2 ^ m.os.length), true, 0)

set_option maxHeartbeats 4000000 in
set_option maxRecDepth 100000 in
theorem k_Least (m : Mk) (mv : Value) (a b c : Int) (w : World) (hm : MkRd w m mv) :
    Calls Try.prog 19 #[mv, .int .i64 a, .int .i64 b, .int .i64 c] w fun e w' => e = .returned (.tuple #[.int .i64 (leastF m a b c).1, .bool (leastF m a b c).2.1, .int .i64 (leastF m a b c).2.2]) ∧ Below w.heap.size w w' := by
  have HM := Lib.hid hm
  obtain ⟨ka, kc, oa, oc, rfl, _⟩ := hm
  have hB0 : Below w.heap.size w (((w.alloc (.cells #[.int .i64 m.n, .slice ka m.ks.length kc, .slice oa m.os.length oc] 24)).alloc (.cells #[.int .i64 a, .int .i64 b] 3)).alloc (.cells #[.int .i64 c] 3)) := bal (bal (bal (Below.refl _ _) _) _) _
  have hcalls := Lib.hid (k_asked m _ [] [a, b] [c] none (some ⟨w.heap.size + 1, 0, none⟩) (some ⟨w.heap.size + 1 + 1, 0, none⟩) 0 2 1 _ (HM.out.below hB0) Rd.nil ((by simpa using rdI_new (w.alloc (.cells #[.int .i64 m.n, .slice ka m.ks.length kc, .slice oa m.os.length oc] 24)) [a, b] 3 : RdI _ (some ⟨w.heap.size + 1, 0, none⟩) [a, b]).below (bal (Below.refl _ _) (.cells #[.int .i64 c] 3))) (by simpa using rdI_new ((w.alloc (.cells #[.int .i64 m.n, .slice ka m.ks.length kc, .slice oa m.os.length oc] 24)).alloc (.cells #[.int .i64 a, .int .i64 b] 3)) [c] 3 : RdI _ (some ⟨w.heap.size + 1 + 1, 0, none⟩) [c]) (by decide) (by simp) (by simp))
  have HM0 := Lib.hid (cal (cal (show (w.alloc (.cells #[.int .i64 m.n, .slice ka m.ks.length kc, .slice oa m.os.length oc] 24)).cell? ⟨w.heap.size, 0, none⟩ = some (.int .i64 m.n) from by simp) (.cells #[.int .i64 a, .int .i64 b] 3)) (.cells #[.int .i64 c] 3))
  have HM1 := Lib.hid (cal (cal (show (w.alloc (.cells #[.int .i64 m.n, .slice ka m.ks.length kc, .slice oa m.os.length oc] 24)).cell? ⟨w.heap.size, 1, none⟩ = some (.slice ka m.ks.length kc) from by simp) (.cells #[.int .i64 a, .int .i64 b] 3)) (.cells #[.int .i64 c] 3))
  have HM2 := Lib.hid (cal (cal (show (w.alloc (.cells #[.int .i64 m.n, .slice ka m.ks.length kc, .slice oa m.os.length oc] 24)).cell? ⟨w.heap.size, 2, none⟩ = some (.slice oa m.os.length oc) from by simp) (.cells #[.int .i64 a, .int .i64 b] 3)) (.cells #[.int .i64 c] 3))
  by_cases he : askE m [] [a, b] [c] ≠ 0
  · have HF := Lib.hid (show leastF m a b c = (0, false, askE m [] [a, b] [c]) from if_pos he)
    have HN := Lib.hid (show (askE m [] [a, b] [c] != 0) = true from by rw [bne_iff_ne]; exact he)
    have hne := HN.out
    have HE := Lib.hid he
    clear he
    go_enter Try.func19, Try.ntmps19
    go_wp2_with fail
    refine hcalls.out.mono ?_
    rintro e w1 ⟨rfl, hb⟩
    have hB := bthen hB0 hb
    have m0 := below_cell hb HM0.out
    have m1 := below_cell hb HM1.out
    have m2 := below_cell hb HM2.out
    clear hcalls HM0 HM1 HM2 hB0 hb
    clear m0 m1 m2
    go_wp2
    go_ret3
    rw [HF.out]
    exact ⟨rfl, hB⟩
  · have he0 : askE m [] [a, b] [c] = 0 := Decidable.of_not_not he
    have HE := Lib.hid he0
    clear he
    obtain ⟨hok, hright, hcl, _⟩ := ask_0 he0
    have HOK := Lib.hid hok
    have hpl := pow_len hok
    have hca := List.all_eq_true.1 hcl a (by simp)
    have hcb := List.all_eq_true.1 hcl b (by simp)
    simp only [okC, Bool.and_eq_true, decide_eq_true_eq] at hca hcb
    obtain ⟨a0, a1⟩ := hca
    obtain ⟨b0, b1⟩ := hcb
    clear hcl
    have h12 := (okM hok).o12
    obtain ⟨N, hN⟩ : ∃ N, N = 2 ^ m.os.length := ⟨_, rfl⟩
    have hsh := shl_len m.os.length h12
    have hmin : min m.os.length 64 = m.os.length := Nat.min_eq_left (by omega)
    rw [hmin, ← hN] at hsh
    have HF := Lib.hid (show leastF m a b c = if 1099511627776 ≤ minN m a b c N then (0, false, 0) else (minN m a b c N, true, 0) from by unfold leastF; rw [if_neg (by rw [HE.out]; simp), hN])
    rw [← hN] at hpl
    have HN := Lib.hid hN
    clear he0 hok hright hN hmin
    obtain ⟨x, rfl⟩ := Int.eq_ofNat_of_zero_le a0
    obtain ⟨y, rfl⟩ := Int.eq_ofNat_of_zero_le b0
    go_enter Try.func19, Try.ntmps19
    go_wp2_with fail
    refine hcalls.out.mono ?_
    rintro e w1 ⟨rfl, hb⟩
    rw [HE.out]
    have hB := bthen hB0 hb
    have m0 := below_cell hb HM0.out
    have m1 := below_cell hb HM1.out
    have m2 := below_cell hb HM2.out
    clear hcalls HM0 HM1 HM2 hB0 hb
    go_wp2_with fail
    simp only [hsh]
    clear hsh
    go_loopw [12, 29] (fun v i wr => ∃ k : Nat, k ≤ N ∧ i = .int .i64 k ∧ v = .int .i64 (minN m x y c k) ∧ wr.cell? ⟨w.heap.size, 0, none⟩ = some (.int .i64 m.n) ∧ wr.cell? ⟨w.heap.size, 1, none⟩ = some (.slice ka m.ks.length kc) ∧ wr.cell? ⟨w.heap.size, 2, none⟩ = some (.slice oa m.os.length oc) ∧ Below w.heap.size w wr) (fun _ i _ => N - (intOf i).toNat)
    case atStart => exact ⟨0, Nat.zero_le _, rfl, rfl, m0, m1, m2, hB⟩
    case round =>
      clear m0 m1 m2 hB
      obtain ⟨k, hk1, rfl, rfl, m0, m1, m2, hB⟩ := hrel
      by_cases hlt : k < N
      · by_cases hc : costL m.os (bits 12 k) ≤ c
        · have hwd : Hid (wdS m k x y = wd m.n.toNat (comps m (bits 12 k)) x y) := Lib.hid rfl
          have HK := fun W (h : MkRd W m (.agg #[.int .i64 m.n, .slice ka m.ks.length kc, .slice oa m.os.length oc])) => k_widthsM k m _ W h HOK.out (by rw [← HN.out]; exact hlt)
          obtain ⟨DD, hDD⟩ : ∃ DD, DD = wd m.n.toNat (comps m (bits 12 k)) := ⟨_, rfl⟩
          rw [← hDD] at HK hwd
          have HKK := Lib.hid HK
          have hms : Hid (minN m x y c (k + 1) = if DD x y < minN m x y c k then DD x y else minN m x y c k) := Lib.hid (by rw [minN, if_pos hc, hwd.out])
          clear HK hDD hwd
          go_wp2_with fail
          refine (k_cost k m _ _ (HM.out.below hB) HOK.out (by rw [← HN.out]; exact hlt)).mono ?_
          rintro e w2 ⟨rfl, hb1⟩
          have hB2 := bthen hB hb1
          replace m0 := below_cell hb1 m0
          replace m1 := below_cell hb1 m1
          replace m2 := below_cell hb1 m2
          clear hb1 hB
          go_wp2_with fail
          refine (HKK.out _ (HM.out.below hB2)).mono ?_
          rintro e w3 ⟨v, rfl, ⟨g, cap, f, cc, rfl, hT⟩, hb2⟩
          have hB3 := bthen hB2 hb2
          have t1 := hT.row x (by omega)
          have t2 := hT.cell x y (by omega) (by omega)
          replace m0 := below_cell hb2 m0
          replace m1 := below_cell hb2 m1
          replace m2 := below_cell hb2 m2
          clear hT hb2 hB2
          by_cases hmn : DD x y < minN m x y c k
          · go_wp2
            go_roundw
            case rel => exact ⟨k + 1, by omega, by go_num, by rw [hms.out, if_pos hmn], m0, m1, m2, hB3⟩
            case measure => simp [intOf]; omega
          · go_wp2
            go_roundw
            case rel => exact ⟨k + 1, by omega, by go_num, by rw [hms.out, if_neg (by omega)], m0, m1, m2, hB3⟩
            case measure => simp [intOf]; omega
        · have hms : Hid (minN m x y c (k + 1) = minN m x y c k) := Lib.hid (by rw [minN, if_neg hc])
          go_wp2_with fail
          refine (k_cost k m _ _ (HM.out.below hB) HOK.out (by rw [← HN.out]; exact hlt)).mono ?_
          rintro e w2 ⟨rfl, hb1⟩
          have hB2 := bthen hB hb1
          replace m0 := below_cell hb1 m0
          replace m1 := below_cell hb1 m1
          replace m2 := below_cell hb1 m2
          clear hb1 hB
          go_wp2
          go_roundw
          case rel => exact ⟨k + 1, by omega, by go_num, by rw [hms.out], m0, m1, m2, hB2⟩
          case measure => simp [intOf]; omega
      · obtain rfl : k = N := by omega
        by_cases hmn : 1099511627776 ≤ minN m x y c k
        · go_wp2
          go_ret3
          rw [HF.out, if_pos hmn]
          exact ⟨rfl, hB⟩
        · go_wp2
          go_ret3
          rw [HF.out, if_neg (by omega)]
          exact ⟨rfl, hB⟩

end Go.Proofs.Ytjdldmecjhddnaa
