/- The contracts of keeper.blank, slices.Clone of offers, keeper.steps, keeper.widths. -/
import Derived.Test.YtjdldmecjhddnaaK2
import Derived.WalkSpells
import Derived.StillTailTactics
import Derived.BigRegion
namespace Go.Proofs.Ytjdldmecjhddnaa
open Go.RowKit
set_option linter.unusedVariables false
set_option linter.unusedSimpArgs false

theorem info_ints : (Try.prog.info? 27).map (fun i => (i.zero, i.size, i.bytes)) = some (some (.slice none 0 0), 1, 24) := by kernel_rfl
theorem info_off : (Try.prog.info? 59).map (fun i => (i.zero, i.size, i.bytes)) = some (some (.agg #[.int .i64 0, .int .i64 0, .int .i64 0, .int .i64 0]), 4, 32) := by kernel_rfl

set_option maxHeartbeats 1000000 in
set_option maxRecDepth 100000 in
theorem k_blank (n : Nat) (h2 : 2 ≤ n) (h8 : n ≤ 8) (w : World) :
    Calls Try.prog 101 #[.int .i64 n] w fun e w' => ∃ v, e = .returned v ∧ Tab w' w.heap.size v n (fun _ _ => 1099511627776) ∧ Below w.heap.size w w' := by
  have hmk := run_make_row' (P := Try.prog) 105 27 (.slice none 0 0) 24 Try.underlying105 info_ints rfl .i64 .i64 n (by omega) (by omega)
  have hmi := run_make_row' (P := Try.prog) 27 3 (.int .i64 0) 8 Try.underlying27 info_int rfl .i64 .i64 n (by omega) (by omega)
  have hr := World.rowIs_made w (.slice none 0 0) n 27
  have hT := Lib.hid (TabP.start (base := w.heap.size) (Nat.le_refl _) hr (fun _ _ => 1099511627776))
  clear hr
  go_enter Try.func101, Try.ntmps101
  go_wp2_with fail
  go_loopw [9] (fun i wr => ∃ k : Nat, k ≤ n ∧ i = .int .i64 k ∧ (∃ f c, TabP wr w.heap.size w.heap.size f c n k (fun _ _ => 1099511627776)) ∧ Below w.heap.size w wr) (fun i _ => n - (intOf i).toNat)
  case atStart => exact ⟨0, Nat.zero_le _, rfl, ⟨_, _, hT.out⟩, bal (Below.refl _ _) _⟩
  case round =>
    clear hT
    obtain ⟨k, hk, rfl, ⟨f, c, hT⟩, hB⟩ := hrel
    by_cases hlt : k < n
    · obtain ⟨u, hu⟩ := hT.out k hlt
      have hz := hT.outz k hlt
      have hgl : w.heap.size < wr.heap.size := World.block_lt_of_cell? wr _ hu
      have hT2 := hT.add (t := 3) hlt hB.size
      rw [World.setCell_alloc_past _ _ _ _ hgl] at hT2
      replace hT2 := Lib.hid hT2
      have hB1 := Lib.hid ((hB.setCell (p := ⟨w.heap.size, k, none⟩) (Nat.le_refl _) (.slice (some ⟨wr.heap.size, 0, none⟩) n n)).alloc (by simpa using hB.size) (.cells (madeCells #[.int .i64 0] n) 3))
      go_wp2_with fail
      obtain ⟨f', hf'⟩ : ∃ f', f' = (fun a => if a = k then wr.heap.size else f a) := ⟨_, rfl⟩
      obtain ⟨c', hc'⟩ : ∃ c', c' = (fun a => if a = k then n else c a) := ⟨_, rfl⟩
      rw [← hf', ← hc'] at hT2
      clear hf' hc' hT hu hz hB
      obtain ⟨wo, rfl⟩ : ∃ wo : World, wo = wr := ⟨_, rfl⟩
      go_loopw [18] (fun i wr => ∃ j : Nat, j ≤ n ∧ i = .int .i64 j ∧ TabP wr w.heap.size w.heap.size f' c' n (k + 1) (fun a b => if a < k ∨ b < j then 1099511627776 else 0) ∧ Below w.heap.size w wr) (fun i _ => n - (intOf i).toNat)
      case atStart => exact ⟨0, Nat.zero_le _, rfl, hT2.out.congr (fun a b ha hb => by by_cases e : a = k <;> simp [e] <;> omega), hB1.out⟩
      case round =>
        clear hT2 hB1 hgl
        obtain ⟨j, hj, rfl, hT, hB⟩ := hrel
        by_cases hlt2 : j < n
        · have h1 := hT.row k (by omega)
          have h2 := hT.cell k j (by omega) hlt2
          have h3 := hT.free k j (by omega) hlt2
          have hset := Lib.hid (hT.set (a := k) (b := j) (by omega) hlt2 1099511627776)
          have hfk := (hT.hf k (by omega)).1
          go_wp2
          go_roundw
          case rel =>
            refine ⟨j + 1, by omega, by go_num, hset.out.congr (fun a b ha hb => ?_), hB.setCell (by show w.heap.size ≤ f' k; omega) _⟩
            simp only [upd]
            by_cases e : a = k ∧ b = j
            · simp [e]
            · rw [if_neg e]
              by_cases e2 : a < k ∨ b < j
              · rw [if_pos e2, if_pos (by omega)]
              · rw [if_neg e2, if_neg (by omega)]
          case measure => simp [intOf]; omega
        · obtain rfl : j = n := by omega
          go_wp2
          go_roundw
          case rel => exact ⟨k + 1, by omega, by go_num, ⟨_, _, hT.congr (fun a b ha hb => by rw [if_pos (by omega)])⟩, hB⟩
          case measure => simp [intOf]; omega
    · obtain rfl : k = n := by omega
      go_wp2
      go_ret
      exact ⟨_, rfl, ⟨_, _, _, _, rfl, hT.done⟩, hB⟩

set_option maxHeartbeats 1000000 in
set_option maxRecDepth 100000 in
theorem k_cloneO (xs : List Off) (a : Option Addr) (c : Nat) (w : World) (hr : RdO w a xs) (hl : xs.length ≤ 24) :
    Calls Try.prog 116 #[.slice a xs.length c] w fun e w' => ∃ v, e = .returned v ∧ w'.ownsRow w.heap.size 59 4 v xs.length (xs.flatMap encO) ∧ Below w.heap.size w w' := by
  have q22 : ∀ (w : World) (a : Option Addr) (n c n' c' : Nat), (binOp .eql 22 (.slice a n c) (.slice none n' c')).run Try.prog w = .ok (.bool a.isNone) w := fun w a n c n' c' => Lib.run_eql_slice_nil w _ _ a n c n' c' Try.underlying22
  cases a with
  | none =>
    have hx : xs = [] := by
      rcases xs with _ | ⟨x, r⟩
      · rfl
      · obtain ⟨b, off, e, _⟩ := hr (by simp); cases e
    subst hx
    go_enter Try.func116, Try.ntmps116
    go_wp2
    go_ret
    exact ⟨_, rfl, World.ownsRow_nil _ _ _ _, Below.refl _ _⟩
  | some ad =>
    obtain ⟨i0, hi, hz0, hz1, hz2⟩ := info_parts info_off
    have HI := Lib.hid hi
    have HZ0 := Lib.hid hz0
    have HZ1 := Lib.hid hz1
    have HZ2 := Lib.hid hz2
    clear hi hz0 hz1 hz2
    have hcs := Lib.hid (flat_cells (k := 4) (fun _ => rfl) hr)
    have hfl := Lib.hid (flat_len (enc := encO) (k := 4) (fun _ => rfl) xs)
    clear hr
    go_enter Try.func116, Try.ntmps116
    go_wp2_with (at_builtin; refine wpList_append_own _ rfl _ _ 22 rfl w.heap.size 59 i0 (.agg #[.int .i64 0, .int .i64 0, .int .i64 0, .int .i64 0]) 4 32 Try.underlying22 HI.out HZ0.out HZ1.out HZ2.out rfl (by decide) _ _ _ rfl (World.ownsRow_made w #[] 0 (Nat.le_refl _) (Nat.zero_le _) (by simp)) ad xs.length c (xs.flatMap encO) rfl hfl.out (fun j u hu => cal (hcs.out j u hu) _) ?c2 ?c3 ?c4 ?c5 ?_)
    case c2 =>
      intro u hu
      obtain ⟨o, _, ho⟩ := List.mem_flatMap.1 hu
      simp only [encO, List.mem_cons, List.not_mem_nil, or_false] at ho
      rcases ho with rfl | rfl | rfl | rfl <;> rfl
    case c3 => unfold maxLen; omega
    case c4 => omega
    case c5 => simp
    · intro v' w1 hown hgr _
      go_wp2
      go_ret
      refine ⟨_, rfl, by simpa using hown, (bal (Below.refl _ _) _).grown hgr (by simp) (fun j e => ?_)⟩
      simp [Value.ownBlock] at e; omega
end Go.Proofs.Ytjdldmecjhddnaa
