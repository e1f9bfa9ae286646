/- The contracts of the reference's Comparisons, cost, List, whole. -/
import Derived.Test.YtjdldmecjhddnaaKR2
import Derived.Test.YtjdldmecjhddnaaK14
import Derived.Test.YtjdldmecjhddnaaKMem4
namespace Go.Proofs.Ytjdldmecjhddnaa
open Go.RowKit
set_option linter.unusedVariables false
set_option linter.unusedSimpArgs false

set_option maxHeartbeats 4000000 in
set_option maxRecDepth 100000 in
theorem r_Comparisons (m : Mk) (mv : Value) (l : List Int) (la : Option Addr) (ln lc : Nat) (w : World) (hm : MkRd w m mv) (hln : l.length = ln) (hl : RdI w la l) (hok : m.ok = true) (hb : ∀ x ∈ l, 0 ≤ x ∧ x < m.os.length) (h12 : l.length ≤ 12) :
    Calls Try.prog 94 #[mv, .slice la ln lc] w fun e w' => ∃ v, e = .returned v ∧ w'.ownsRow w.heap.size 59 4 v (comps m l).length ((comps m l).flatMap encO) ∧ Below w.heap.size w w' := by
  subst hln
  have HBD := Lib.hid hb
  obtain ⟨ka, kc, oa, oc, rfl, hk, ho, hkl, hol⟩ := hm
  have h24 := (okM hok).k24
  have ho12 := (okM hok).o12
  have hB0 : Below w.heap.size w (w.alloc (.cells #[.int .i64 m.n, .slice ka m.ks.length kc, .slice oa m.os.length oc] 24)) := bal (Below.refl _ _) _
  have HB0 := Lib.hid hB0
  have HM2 := Lib.hid (show (w.alloc (.cells #[.int .i64 m.n, .slice ka m.ks.length kc, .slice oa m.os.length oc] 24)).cell? ⟨w.heap.size, 2, none⟩ = some (.slice oa m.os.length oc) from by simp)
  have HK := Lib.hid (hk.below hB0)
  have HO := Lib.hid ho
  have HL := Lib.hid hl
  clear hk ho hl hB0 hb hok
  go_enter Try.func94, Try.ntmps94
  go_wp2_with (at_builtin; refine ap_all rfl _ _ 22 rfl (w.heap.size + 1) 59 (.agg #[.int .i64 0, .int .i64 0, .int .i64 0, .int .i64 0]) 4 32 info_off Try.underlying22 rfl (by decide) _ 0 [] rfl (World.ownsRow_nil _ _ _ _) (enc := encO) (fun _ => rfl) (fun x u hu => by simp only [encO, List.mem_cons, List.not_mem_nil, or_false] at hu; rcases hu with rfl | rfl | rfl | rfl <;> rfl) m.ks ka m.ks.length kc rfl rfl HK.out (by unfold maxLen; omega) (by omega) (by simp) ?_; intro v' w1 hown1 hgr1)
  have hB1 := Lib.hid (HB0.out.grown hgr1 (by simp) (fun q e => by cases e))
  have hm2 := Lib.hid (grown_cell hgr1 HM2.out (by intro e; cases e))
  replace hown1 := Lib.hid (show w1.ownsRow (w.heap.size + 1) 59 4 v' (m.ks ++ sel m.os (l.take 0)).length ((m.ks ++ sel m.os (l.take 0)).flatMap encO) from by simpa [sel] using hown1)
  clear hgr1 HM2 HB0
  go_wp2_with fail
  go_loopw [5, 6] (fun v i wr => ∃ k : Nat, k ≤ l.length ∧ i = .int .i64 k ∧ wr.ownsRow (w.heap.size + 1) 59 4 v (m.ks ++ sel m.os (l.take k)).length ((m.ks ++ sel m.os (l.take k)).flatMap encO) ∧ wr.cell? ⟨w.heap.size, 2, none⟩ = some (.slice oa m.os.length oc) ∧ Below w.heap.size w wr) (fun _ i _ => l.length - (intOf i).toNat)
  case atStart => exact ⟨0, Nat.zero_le _, rfl, hown1.out, hm2.out, hB1.out⟩
  case round =>
    clear hown1 hm2 hB1
    obtain ⟨k, hk1, rfl, hown, hm2, hB⟩ := hrel
    have hsz : w.heap.size < wr.heap.size := World.block_lt_of_cell? wr _ hm2
    by_cases hlt : k < l.length
    · obtain ⟨b, off, x, rfl, hx, hc⟩ := HL.out.ati hlt
      obtain ⟨h0, h1⟩ := HBD.out x (List.mem_of_getElem? hx)
      obtain ⟨y, rfl⟩ := Int.eq_ofNat_of_zero_le h0
      obtain ⟨b2, off2, o, rfl, hox, q0, q1, q2, q3⟩ := HO.out.ato (i := y) (by omega)
      have hb1 : b < w.heap.size := World.block_lt_of_cell? w _ hc
      have hb2 : b2 < w.heap.size := World.block_lt_of_cell? w _ q0
      replace hc := below_cell hB hc
      replace q0 := below_cell hB q0
      replace q1 := below_cell hB q1
      replace q2 := below_cell hB q2
      replace q3 := below_cell hB q3
      have HX := Lib.hid hx
      have HOX := Lib.hid hox
      have HLN := Lib.hid (show (m.ks ++ sel m.os (l.take k)).length = m.ks.length + k by rw [List.length_append, sel_len, List.length_take, Nat.min_eq_left (by omega)])
      clear hx hox
      have hs1 := Lib.hid (show (fun w' : World => w'.cell? ⟨w.heap.size, 2, none⟩ = some (.slice (some ⟨b2, off2, none⟩) m.os.length oc) ∧ w'.cell? ⟨b, off + k, none⟩ = some (.int .i64 (y : Int)) ∧ w'.cell? ⟨b2, off2 + y * 4, none⟩ = some (.int .i64 o.A) ∧ w'.cell? ⟨b2, off2 + y * 4 + 1, none⟩ = some (.int .i64 o.B) ∧ w'.cell? ⟨b2, off2 + y * 4 + 2, none⟩ = some (.int .i64 o.C) ∧ w'.cell? ⟨b2, off2 + y * 4 + 3, none⟩ = some (.int .i64 o.W)) wr.drew from ⟨cdw hm2, cdw hc, cdw q0, cdw q1, cdw q2, cdw q3⟩)
      have hbA := Lib.hid (show Below wr.heap.size wr (wr.alloc (.cells #[.int .i64 o.A, .int .i64 o.B, .int .i64 o.C, .int .i64 o.W] 59)).drew from (bal (Below.refl _ _) _).drew)
      have hs2 := Lib.hid (show (fun w' : World => w'.cell? ⟨w.heap.size, 2, none⟩ = some (.slice (some ⟨b2, off2, none⟩) m.os.length oc) ∧ w'.cell? ⟨b, off + k, none⟩ = some (.int .i64 (y : Int)) ∧ w'.cell? ⟨b2, off2 + y * 4, none⟩ = some (.int .i64 o.A) ∧ w'.cell? ⟨b2, off2 + y * 4 + 1, none⟩ = some (.int .i64 o.B) ∧ w'.cell? ⟨b2, off2 + y * 4 + 2, none⟩ = some (.int .i64 o.C) ∧ w'.cell? ⟨b2, off2 + y * 4 + 3, none⟩ = some (.int .i64 o.W)) (wr.alloc (.cells #[.int .i64 o.A, .int .i64 o.B, .int .i64 o.C, .int .i64 o.W] 59)).drew from ⟨below_cell hbA.out hm2, below_cell hbA.out hc, below_cell hbA.out q0, below_cell hbA.out q1, below_cell hbA.out q2, below_cell hbA.out q3⟩)
      have hownA := Lib.hid (own_below hown hbA.out)
      have hnew : Hid (∀ t u, (encO o)[t]? = some u → (wr.alloc (.cells #[.int .i64 o.A, .int .i64 o.B, .int .i64 o.C, .int .i64 o.W] 59)).drew.cell? ⟨wr.heap.size, t, none⟩ = some u) := Lib.hid (fun t u hu => (cdw (cnew rfl (by simpa [encO] using hu))))
      have HGB : Hid (∀ n, n ≤ w.heap.size → u5.ownBlock ≠ some n) := Lib.hid (fun n hn e => by have := (hown.lt _ e).1; omega)
      go_wp2
      refine till_region (T := Till2 [11] (fun w' : World => w'.cell? ⟨w.heap.size, 2, none⟩ = some (.slice (some ⟨b2, off2, none⟩) m.os.length oc) ∧ w'.cell? ⟨b, off + k, none⟩ = some (.int .i64 (y : Int)) ∧ w'.cell? ⟨b2, off2 + y * 4, none⟩ = some (.int .i64 o.A) ∧ w'.cell? ⟨b2, off2 + y * 4 + 1, none⟩ = some (.int .i64 o.B) ∧ w'.cell? ⟨b2, off2 + y * 4 + 2, none⟩ = some (.int .i64 o.C) ∧ w'.cell? ⟨b2, off2 + y * 4 + 3, none⟩ = some (.int .i64 o.W)) [11] (fun _ : World => True)) (by kernel_rfl) ⟨till_hold hs1.out, till_hold trivial⟩ (fun _ => ?_)
      refine till_take1 (i := 0) (v := ?v0) rfl (by kernel_rfl) (by kernel_rfl) (by kernel_rfl) (by kernel_rfl) (by kernel_rfl) (by kernel_rfl) (by kernel_rfl) (fun _ _ _ h => h) (Or.inl ⟨by rfl, ?y0⟩) ⟨till_hold hs1.out, till_hold trivial⟩ (fun _ => ?r0)
      case y0 => (intro wS hSw; (try dsimp only at hSw); go_split_ands; go_simp <;> with_reducible rfl)
      (try simp only [Act.put, List.setIfInBounds_toArray, List.set_cons_zero, List.set_cons_succ])
      refine till_take1 (i := 1) (v := ?v1) rfl (by kernel_rfl) (by kernel_rfl) (by kernel_rfl) (by kernel_rfl) (by kernel_rfl) (by kernel_rfl) (by kernel_rfl) (fun _ _ _ h => h) (Or.inl ⟨by rfl, ?y1⟩) ⟨till_hold hs1.out, till_hold trivial⟩ (fun _ => ?r1)
      case y1 => (intro wS hSw; (try dsimp only at hSw); go_split_ands; go_simp <;> with_reducible rfl)
      (try simp only [Act.put, List.setIfInBounds_toArray, List.set_cons_zero, List.set_cons_succ])
      refine till_take1 (i := 2) (v := ?v2) rfl (by kernel_rfl) (by kernel_rfl) (by kernel_rfl) (by kernel_rfl) (by kernel_rfl) (by kernel_rfl) (by kernel_rfl) (fun _ _ _ h => h) (Or.inl ⟨by rfl, ?y2⟩) ⟨till_hold hs1.out, till_hold trivial⟩ (fun _ => ?r2)
      case y2 => (intro wS hSw; (try dsimp only at hSw); go_split_ands; go_simp <;> with_reducible rfl)
      (try simp only [Act.put, List.setIfInBounds_toArray, List.set_cons_zero, List.set_cons_succ])
      refine till_take1 (i := 3) (v := ?v3) rfl (by kernel_rfl) (by kernel_rfl) (by kernel_rfl) (by kernel_rfl) (by kernel_rfl) (by kernel_rfl) (by kernel_rfl) (fun _ _ _ h => h) (Or.inl ⟨by rfl, ?y3⟩) ⟨till_hold hs1.out, till_hold trivial⟩ (fun _ => ?r3)
      case y3 => (intro wS hSw; (try dsimp only at hSw); go_split_ands; go_simp <;> with_reducible rfl)
      (try simp only [Act.put, List.setIfInBounds_toArray, List.set_cons_zero, List.set_cons_succ])
      refine till_take1 (i := 4) (v := ?v4) rfl (by kernel_rfl) (by kernel_rfl) (by kernel_rfl) (by kernel_rfl) (by kernel_rfl) (by kernel_rfl) (by kernel_rfl) (fun _ _ _ h => h) (Or.inl ⟨by rfl, ?y4⟩) ⟨till_hold hs1.out, till_hold trivial⟩ (fun _ => ?r4)
      case y4 => (intro wS hSw; (try dsimp only at hSw); go_split_ands; go_simp <;> with_reducible rfl)
      (try simp only [Act.put, List.setIfInBounds_toArray, List.set_cons_zero, List.set_cons_succ])
      refine till_take1 (i := 5) (v := ?v5) rfl (by kernel_rfl) (by kernel_rfl) (by kernel_rfl) (by kernel_rfl) (by kernel_rfl) (by kernel_rfl) (by kernel_rfl) (fun _ _ _ h => h) (Or.inl ⟨by rfl, ?y5⟩) ⟨till_hold hs1.out, till_hold trivial⟩ (fun _ => ?r5)
      case y5 => (intro wS hSw; (try dsimp only at hSw); go_split_ands; go_simp <;> with_reducible rfl)
      (try simp only [Act.put, List.setIfInBounds_toArray, List.set_cons_zero, List.set_cons_succ])
      refine till_take1 (i := 6) (v := ?v6) rfl (by kernel_rfl) (by kernel_rfl) (by kernel_rfl) (by kernel_rfl) (by kernel_rfl) (by kernel_rfl) (by kernel_rfl) (fun _ _ _ h => h) (Or.inl ⟨by rfl, ?y6⟩) ⟨till_hold hs1.out, till_hold trivial⟩ (fun _ => ?r6)
      case y6 => (intro wS hSw; (try dsimp only at hSw); go_split_ands; go_simp <;> with_reducible rfl)
      (try simp only [Act.put, List.setIfInBounds_toArray, List.set_cons_zero, List.set_cons_succ])
      refine till_take1 (i := 7) (v := ?v7) rfl (by kernel_rfl) (by kernel_rfl) (by kernel_rfl) (by kernel_rfl) (by kernel_rfl) (by kernel_rfl) (by kernel_rfl) (fun _ _ _ h => h) (Or.inl ⟨by rfl, ?y7⟩) ⟨till_hold hs1.out, till_hold trivial⟩ (fun _ => ?r7)
      case y7 => (intro wS hSw; (try dsimp only at hSw); go_split_ands; go_simp <;> with_reducible rfl)
      (try simp only [Act.put, List.setIfInBounds_toArray, List.set_cons_zero, List.set_cons_succ])
      refine till_take1 (i := 8) (v := ?v8) rfl (by kernel_rfl) (by kernel_rfl) (by kernel_rfl) (by kernel_rfl) (by kernel_rfl) (by kernel_rfl) (by kernel_rfl) (fun _ _ _ h => h) (Or.inl ⟨by rfl, ?y8⟩) ⟨till_hold hs1.out, till_hold trivial⟩ (fun _ => ?r8)
      case y8 => (intro wS hSw; (try dsimp only at hSw); go_split_ands; go_simp <;> with_reducible rfl)
      (try simp only [Act.put, List.setIfInBounds_toArray, List.set_cons_zero, List.set_cons_succ])
      refine till_ready (i := 9) (o := _) (by kernel_rfl) rfl (fun K hK => ?_)
      go_simp
      refine hK.out _ _ ⟨till_hold hs2.out, till_hold trivial⟩ ?_
      clear hK K
      (try simp only [Act.put, List.setIfInBounds_toArray, List.set_cons_zero, List.set_cons_succ])
      refine till_ready (i := 10) (o := _) (by kernel_rfl) rfl (fun K hK => ?_)
      refine step_ap1 rfl _ _ 22 rfl (w.heap.size + 1) 59 (.agg #[.int .i64 0, .int .i64 0, .int .i64 0, .int .i64 0]) 4 32 info_off Try.underlying22 rfl (by decide) (by decide) u5 _ _ rfl hownA.out (encO o) wr.heap.size rfl rfl ?cA rfl (by rw [HLN.out]; omega) (by have := hsz; simp; omega) ?_
      case cA => exact hnew.out
      intro v' w4 hown4 hgr hat
      refine hK.out _ _ ⟨till_hold (show (fun w' : World => w'.cell? ⟨w.heap.size, 2, none⟩ = some (.slice (some ⟨b2, off2, none⟩) m.os.length oc) ∧ w'.cell? ⟨b, off + k, none⟩ = some (.int .i64 (y : Int)) ∧ w'.cell? ⟨b2, off2 + y * 4, none⟩ = some (.int .i64 o.A) ∧ w'.cell? ⟨b2, off2 + y * 4 + 1, none⟩ = some (.int .i64 o.B) ∧ w'.cell? ⟨b2, off2 + y * 4 + 2, none⟩ = some (.int .i64 o.C) ∧ w'.cell? ⟨b2, off2 + y * 4 + 3, none⟩ = some (.int .i64 o.W)) w4 from ⟨grown_cell hgr hs2.out.1 (HGB.out _ (Nat.le_refl _)), grown_cell hgr hs2.out.2.1 (HGB.out _ (Nat.le_of_lt hb1)), grown_cell hgr hs2.out.2.2.1 (HGB.out _ (Nat.le_of_lt hb2)), grown_cell hgr hs2.out.2.2.2.1 (HGB.out _ (Nat.le_of_lt hb2)), grown_cell hgr hs2.out.2.2.2.2.1 (HGB.out _ (Nat.le_of_lt hb2)), grown_cell hgr hs2.out.2.2.2.2.2 (HGB.out _ (Nat.le_of_lt hb2))⟩), till_hold trivial⟩ ?_
      clear hK K
      (try simp only [Act.put, List.setIfInBounds_toArray, List.set_cons_zero, List.set_cons_succ])
      refine till_ready (i := 11) (o := _) (by kernel_rfl) rfl (fun K hK => ?_)
      go_simp
      refine hK.out _ _ ⟨till_gone (by kernel_rfl), till_gone (by kernel_rfl)⟩ ?_
      clear hK K
      (try simp only [Act.put, List.setIfInBounds_toArray, List.set_cons_zero, List.set_cons_succ])
      refine till_done (by kernel_rfl) ?_ _
      go_wp2
      go_roundw
      case rel =>
        refine ⟨k + 1, by omega, by go_num, ?_, grown_cell hgr hs2.out.1 (HGB.out _ (Nat.le_refl _)), (below_then hB hB.size hbA.out).grown hgr (Nat.le_trans hB.size hbA.out.size) (fun j e => by have := (hown.lt j e).1; omega)⟩
        rw [take_snoc HX.out, sel_snoc, getD_of HOX.out, ← List.append_assoc, List.flatMap_append, List.length_append]
        simpa using hown4
      case measure => simp [intOf]; omega
    · obtain rfl : k = l.length := by omega
      go_wp2
      go_ret
      exact ⟨_, rfl, by simpa [comps] using hown.mono_base (by omega), hB⟩

set_option maxHeartbeats 1000000 in
set_option maxRecDepth 100000 in
theorem r_cost (m : Mk) (mv : Value) (l : List Int) (la : Option Addr) (ln lc : Nat) (w : World) (hm : MkRd w m mv) (hln : l.length = ln) (hl : RdI w la l) (hok : m.ok = true) (hb : ∀ x ∈ l, 0 ≤ x ∧ x < m.os.length) (h12 : l.length ≤ 12) :
    Calls Try.prog 73 #[mv, .slice la ln lc] w fun e w' => e = .returned (.int .i64 (costL m.os l)) ∧ Below w.heap.size w w' := by
  subst hln
  have HBD := Lib.hid hb
  obtain ⟨ka, kc, oa, oc, rfl, hk, ho, hkl, hol⟩ := hm
  have OK := Lib.hid (okM hok)
  have ho12 := OK.out.o12
  have HB0 := Lib.hid (show Below w.heap.size w (w.alloc (.cells #[.int .i64 m.n, .slice ka m.ks.length kc, .slice oa m.os.length oc] 24)) from bal (Below.refl _ _) _)
  have HM2 := Lib.hid (show (w.alloc (.cells #[.int .i64 m.n, .slice ka m.ks.length kc, .slice oa m.os.length oc] 24)).cell? ⟨w.heap.size, 2, none⟩ = some (.slice oa m.os.length oc) from by simp)
  have HO := Lib.hid ho
  have HL := Lib.hid hl
  clear hk ho hl hb hok
  go_enter Try.func73, Try.ntmps73
  go_wp2_with fail
  go_loopw [5, 6] (fun v i wr => ∃ k : Nat, k ≤ l.length ∧ i = .int .i64 k ∧ v = .int .i64 (costL m.os (l.take k)) ∧ wr.cell? ⟨w.heap.size, 2, none⟩ = some (.slice oa m.os.length oc) ∧ Below w.heap.size w wr) (fun _ i _ => l.length - (intOf i).toNat)
  case atStart => exact ⟨0, Nat.zero_le _, rfl, rfl, HM2.out, HB0.out⟩
  case round =>
    clear HM2 HB0
    obtain ⟨k, hk1, rfl, rfl, hm2, hB⟩ := hrel
    by_cases hlt : k < l.length
    · obtain ⟨b, off, x, rfl, hx, hc⟩ := (HL.out.below hB).ati hlt
      obtain ⟨h0, h1⟩ := HBD.out x (List.mem_of_getElem? hx)
      obtain ⟨y, rfl⟩ := Int.eq_ofNat_of_zero_le h0
      obtain ⟨b2, off2, o, rfl, hox, q0, q1, q2, q3⟩ := (HO.out.below hB).ato (i := y) (by omega)
      have hcb := costL_bd m.os (l.take k) (fun o h => (isOff_iff (OK.out.os o h)).c0) (fun o h => (isOff_iff (OK.out.os o h)).c1)
      have hob := isOff_iff (OK.out.os o (List.mem_of_getElem? hox))
      have p0 := hob.c0
      have p1 := hob.c1
      have hlk : (l.take k).length ≤ 12 := by rw [List.length_take]; omega
      have HX := Lib.hid hx
      have HOX := Lib.hid hox
      have t0 : IntKind.i64.wrap (costL m.os (l.take k) + o.C) = costL m.os (l.take k) + o.C := by rw [IntKind.wrap_i64]; omega
      clear hx hox hob
      go_wp2
      go_quiet (fail)
      go_wp2
      go_roundw
      case rel => exact ⟨k + 1, by omega, by go_num, by rw [take_snoc HX.out, costL_snoc, getD_of HOX.out], hm2, bdrN hB _⟩
      case measure => simp [intOf]; omega
    · obtain rfl : k = l.length := by omega
      go_wp2
      go_ret
      exact ⟨ret_int (by simp), hB⟩

theorem bits_up {k s : Nat} (hk : k ≤ 12) (hs : s < 2 ^ k) : bits 12 s = bits k s := by
  refine sorted_eq _ _ (bits_sorted _ _) (bits_sorted _ _) (fun x => ?_)
  rw [mem_bits, mem_bits]
  constructor
  · rintro ⟨h0, h1, h2⟩
    refine ⟨h0, ?_, h2⟩
    rcases Int.lt_or_le x k with h | h
    · exact h
    · rw [Nat.testBit_lt_two_pow (Nat.lt_of_lt_of_le hs (Nat.pow_le_pow_right (n := 2) (by decide) (by omega)))] at h2
      cases h2
  · rintro ⟨h0, h1, h2⟩
    exact ⟨h0, by omega, h2⟩

set_option maxHeartbeats 1000000 in
set_option maxRecDepth 100000 in
theorem r_List (s : Nat) (m : Mk) (mv : Value) (w : World) (hm : MkRd w m mv) (h12 : m.os.length ≤ 12) (hs : s < 2 ^ m.os.length) :
    Calls Try.prog 66 #[mv, .int .i64 (s : Int)] w fun e w' => ∃ v, e = .returned v ∧ OwnI w' w.heap.size v (bits 12 s) ∧ Below w.heap.size w w' := by
  have hs12 : s < 4096 := Nat.lt_of_lt_of_le hs (Nat.pow_le_pow_right (n := 2) (by decide) h12)
  have HUP := Lib.hid (bits_up h12 hs)
  obtain ⟨ka, kc, oa, oc, rfl, _, _, hkl, hol⟩ := hm
  have HB0 := Lib.hid (show Below w.heap.size w (w.alloc (.cells #[.int .i64 m.n, .slice ka m.ks.length kc, .slice oa m.os.length oc] 24)) from bal (Below.refl _ _) _)
  have HM2 := Lib.hid (show (w.alloc (.cells #[.int .i64 m.n, .slice ka m.ks.length kc, .slice oa m.os.length oc] 24)).cell? ⟨w.heap.size, 2, none⟩ = some (.slice oa m.os.length oc) from by simp)
  go_enter Try.func66, Try.ntmps66
  go_wp2_with fail
  go_loopw [5, 6] (fun v i wr => ∃ k : Nat, k ≤ m.os.length ∧ i = .int .i64 k ∧ wr.ownsRow (w.heap.size + 1) 3 1 v (bits k s).length ((bits k s).map (Value.int .i64)) ∧ wr.cell? ⟨w.heap.size, 2, none⟩ = some (.slice oa m.os.length oc) ∧ Below w.heap.size w wr) (fun _ i _ => m.os.length - (intOf i).toNat)
  case atStart => exact ⟨0, Nat.zero_le _, rfl, World.ownsRow_nil _ _ _ _, HM2.out, HB0.out⟩
  case round =>
    clear HM2 HB0
    obtain ⟨k, hk, rfl, hown, hm2, hB⟩ := hrel
    have hsz : w.heap.size < wr.heap.size := World.block_lt_of_cell? wr _ hm2
    by_cases hlt : k < m.os.length
    · have hl := bits_len k s
      have hbs := Lib.hid (bits_succ k s)
      cases ht : s.testBit k with
      | true =>
        have hT : (Go.bits .and .i64 ((s : Int) / 2 ^ k) 1 == 1) = true := by rw [bit_test s k (by omega), ht]
        have HT := Lib.hid ht
        clear ht
        go_wp2_with (at_builtin; refine ap1 rfl _ _ 27 rfl (w.heap.size + 1) 3 (.int .i64 0) 1 8 info_int Try.underlying27 rfl (by decide) (by decide) _ _ _ rfl hown [.int .i64 k] rfl rfl rfl (by omega) hsz ?_; intro v' w1 hown1 hgr hat hnn)
        go_roundw
        case rel => exact ⟨k + 1, by omega, by go_num, by rw [hbs.out, HT.out]; simpa using hown1, grown_cell hgr hm2 (by intro e; have := (hown.lt _ e).1; simp at this; omega), hB.grown hgr hB.size (fun j e => by have := (hown.lt j e).1; omega)⟩
        case measure => simp [intOf]; omega
      | false =>
        have hT : (Go.bits .and .i64 ((s : Int) / 2 ^ k) 1 == 1) = false := by rw [bit_test s k (by omega), ht]
        have HT := Lib.hid ht
        clear ht
        go_wp2
        go_roundw
        case rel => exact ⟨k + 1, by omega, by go_num, by rw [hbs.out, HT.out]; simpa using hown, hm2, hB⟩
        case measure => simp [intOf]; omega
    · obtain rfl : k = m.os.length := by omega
      go_wp2
      go_ret
      exact ⟨_, rfl, by rw [HUP.out]; exact hown.mono_base (by omega), hB⟩

set_option maxHeartbeats 1000000 in
set_option maxRecDepth 100000 in
theorem r_whole (m : Mk) (mv : Value) (w : World) (hm : MkRd w m mv) (hok : m.ok = true) :
    Calls Try.prog 67 #[mv] w fun e w' => e = .returned (.int .i64 (allN m : Nat)) ∧ Below w.heap.size w w' := by
  obtain ⟨ka, kc, oa, oc, rfl, _⟩ := hm
  have h12 := (okM hok).o12
  have hsh := shl_len1 _ h12
  have hmin : min m.os.length 64 = m.os.length := Nat.min_eq_left (by omega)
  rw [hmin] at hsh
  go_enter Try.func67, Try.ntmps67
  go_wp2
  go_ret
  exact ⟨ret_int (by first | exact hsh | (unfold allN; rw [← hsh])), bal (Below.refl _ _) _⟩
end Go.Proofs.Ytjdldmecjhddnaa
