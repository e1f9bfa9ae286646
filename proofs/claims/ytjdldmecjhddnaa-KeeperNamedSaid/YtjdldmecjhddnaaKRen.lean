/- The contract of the laws' renamed. -/
import Derived.Test.YtjdldmecjhddnaaKBld
import Derived.Test.YtjdldmecjhddnaaKM9
namespace Go.Proofs.Ytjdldmecjhddnaa
open Go.RowKit
set_option linter.unusedVariables false
set_option linter.unusedSimpArgs false

set_option maxHeartbeats 8000000 in
set_option maxRecDepth 100000 in
theorem l_renamed (m : Mk) (mv : Value) (x y : Int) (w : World) (hm : MkRd w m mv) (hk24 : m.ks.length ≤ 24) (ho12 : m.os.length ≤ 12) :
    Calls Try.prog 29 #[mv, .int .i64 x, .int .i64 y] w fun e w' => RetMk w w' e (swM x y m) := by
  obtain ⟨ka, kc, oa, oc, rfl, hk, ho, _, _⟩ := hm
  have HKS := Lib.hid hk
  have HOS := Lib.hid ho
  obtain ⟨kn, hkn⟩ : ∃ kn, m.ks.length = kn := ⟨_, rfl⟩
  obtain ⟨on, hon⟩ : ∃ on, m.os.length = on := ⟨_, rfl⟩
  rw [hkn, hon]
  rw [hkn] at hk24
  rw [hon] at ho12
  have HKN := Lib.hid hkn
  have HON := Lib.hid hon
  clear hk ho hkn hon
  go_enter Try.func29, Try.ntmps29
  go_wp2_with fail
  obtain ⟨w1, hw1⟩ : ∃ w1 : World, w1 = (((((w.alloc (.cells #[.int .i64 m.n, .slice ka kn kc, .slice oa on oc] 24)).alloc (.cells #[.int .i64 x] 3)).alloc (.cells #[.int .i64 y] 3)).alloc (.cells #[.int .i64 0, .slice none 0 0, .slice none 0 0] 24)).alloc (.cells #[.int .i64 m.n, .slice none 0 0, .slice none 0 0] 24)) := ⟨_, rfl⟩
  rw [← hw1]
  have hB1 : Below w.heap.size w w1 := by rw [hw1]; exact bal (bal (bal (bal (bal (Below.refl _ _) _) _) _) _) _
  have hsz1 : w1.heap.size = w.heap.size + 1 + 1 + 1 + 1 + 1 := by rw [hw1]; simp
  have HX1 := Lib.hid (show w1.cell? ⟨w.heap.size + 1, 0, none⟩ = some (.int .i64 x) from by rw [hw1]; exact cal (cal (cal (cnew (by simp) rfl) _) _) _)
  have HY1 := Lib.hid (show w1.cell? ⟨w.heap.size + 1 + 1, 0, none⟩ = some (.int .i64 y) from by rw [hw1]; exact cal (cal (cnew (by simp) rfl) _) _)
  have HM2 := Lib.hid (show w1.cell? ⟨w.heap.size, 2, none⟩ = some (.slice oa on oc) from by rw [hw1]; exact cal (cal (cal (cal (cnew rfl rfl) _) _) _) _)
  have HR1 := Lib.hid (show Bx w1 (w.heap.size + 1 + 1 + 1) (.int .i64 0) (.slice none 0 0) (.slice none 0 0) from by rw [hw1]; exact (Bx.new _ _ _ _ (by simp)).below (bal (Below.refl _ _) _))
  have HBX1 := Lib.hid (show Bx w1 (w.heap.size + 1 + 1 + 1 + 1) (.int .i64 m.n) (.slice none 0 0) (.slice none 0 0) from by rw [hw1]; exact Bx.new _ _ _ _ (by simp))
  have HB1 := Lib.hid hB1
  have HSZ1 := Lib.hid hsz1
  clear hw1 hB1 hsz1
  go_loopw [20] (fun i wr => ∃ k : Nat, k ≤ kn ∧ i = .int .i64 k ∧ (∃ v, Bx wr (w.heap.size + 1 + 1 + 1 + 1) (.int .i64 m.n) v (.slice none 0 0) ∧ wr.ownsRow (w.heap.size + 1 + 1 + 1 + 1 + 1) 59 4 v k (((m.ks.take k).map (swO x y)).flatMap encO)) ∧ Below (w.heap.size + 1 + 1 + 1 + 1) w1 wr) (fun i _ => kn - (intOf i).toNat)
  case atStart => exact ⟨0, Nat.zero_le _, rfl, ⟨_, HBX1.out, World.ownsRow_nil _ _ _ _⟩, Below.refl _ _⟩
  case round =>
    obtain ⟨k, hk, rfl, ⟨v, hBX, hown⟩, hBL⟩ := hrel
    have hsx := hBX.lt
    have hBw : Below w.heap.size w wr := HB1.out.trans (hBL.mono (by omega))
    have hcx : wr.cell? ⟨w.heap.size + 1, 0, none⟩ = some (.int .i64 x) := (hBL.cell (p := ⟨w.heap.size + 1, 0, none⟩) (by show w.heap.size + 1 < (w.heap.size + 1 + 1 + 1 + 1); omega)).trans HX1.out
    have hcy : wr.cell? ⟨w.heap.size + 1 + 1, 0, none⟩ = some (.int .i64 y) := (hBL.cell (p := ⟨w.heap.size + 1 + 1, 0, none⟩) (by show w.heap.size + 1 + 1 < (w.heap.size + 1 + 1 + 1 + 1); omega)).trans HY1.out
    have HBX := Lib.hid hBX
    have HOWN := Lib.hid hown
    have HBL := Lib.hid hBL
    clear hBX hown hBL
    by_cases hlt : k < kn
    · obtain ⟨b, off, o, rfl, hx, q0, q1, q2, q3⟩ := (HKS.out.below hBw).ato (i := k) (by rw [HKN.out]; exact hlt)
      obtain ⟨A, Bc, C, W⟩ := o
      simp only at q0 q1 q2 q3
      have HX := Lib.hid hx
      have hsz := HBX.out.lt
      have hbA := Lib.hid (show Below wr.heap.size wr ((wr.alloc (.cells #[.int .i64 A, .int .i64 Bc, .int .i64 C, .int .i64 W] 59)).alloc (.cells #[.int .i64 (swI x y A), .int .i64 (swI x y Bc), .int .i64 C, .int .i64 W] 59)).drew from (bal (bal (Below.refl _ _) _) _).drew)
      have hs1 := Lib.hid (show (fun w' : World => w'.cell? ⟨w.heap.size + 1 + 1 + 1 + 1, 1, none⟩ = some v ∧ w'.cell? ⟨wr.heap.size, 0, none⟩ = some (.int .i64 A) ∧ w'.cell? ⟨wr.heap.size, 1, none⟩ = some (.int .i64 Bc) ∧ w'.cell? ⟨wr.heap.size, 2, none⟩ = some (.int .i64 C) ∧ w'.cell? ⟨wr.heap.size, 3, none⟩ = some (.int .i64 W)) (wr.alloc (.cells #[.int .i64 A, .int .i64 Bc, .int .i64 C, .int .i64 W] 59)).drew from ⟨cdw (cal HBX.out.c1 _), cdw (by simp), cdw (by simp), cdw (by simp), cdw (by simp)⟩)
      have hs2 := Lib.hid (show (fun w' : World => w'.cell? ⟨w.heap.size + 1 + 1 + 1 + 1, 1, none⟩ = some v ∧ w'.cell? ⟨wr.heap.size, 0, none⟩ = some (.int .i64 A) ∧ w'.cell? ⟨wr.heap.size, 1, none⟩ = some (.int .i64 Bc) ∧ w'.cell? ⟨wr.heap.size, 2, none⟩ = some (.int .i64 C) ∧ w'.cell? ⟨wr.heap.size, 3, none⟩ = some (.int .i64 W)) ((wr.alloc (.cells #[.int .i64 A, .int .i64 Bc, .int .i64 C, .int .i64 W] 59)).alloc (.cells #[.int .i64 (swI x y A), .int .i64 (swI x y Bc), .int .i64 C, .int .i64 W] 59)).drew from ⟨cdw (cal (cal HBX.out.c1 _) _), cdw (cal (by simp) _), cdw (cal (by simp) _), cdw (cal (by simp) _), cdw (cal (by simp) _)⟩)
      have HBXB := Lib.hid (HBX.out.below hbA.out)
      have hownA := Lib.hid (own_below HOWN.out hbA.out)
      have hqX : Hid (∀ u : Unit, v.ownBlock ≠ some (w.heap.size + 1 + 1 + 1 + 1)) := Lib.hid (fun _ e => by have := (HOWN.out.lt _ e).1; omega)
      have hqN : Hid (∀ u : Unit, v.ownBlock ≠ some wr.heap.size) := Lib.hid (fun _ e => by have := (HOWN.out.lt _ e).2; omega)
      have hnew : Hid (∀ t u, ([.int .i64 (swI x y A), .int .i64 (swI x y Bc), .int .i64 C, .int .i64 W] : List Value)[t]? = some u → ((wr.alloc (.cells #[.int .i64 A, .int .i64 Bc, .int .i64 C, .int .i64 W] 59)).alloc (.cells #[.int .i64 (swI x y A), .int .i64 (swI x y Bc), .int .i64 C, .int .i64 W] 59)).drew.cell? ⟨wr.heap.size + 1, t, none⟩ = some u) := Lib.hid (fun t u hu => by rcases t with _ | _ | _ | _ | t <;> simp at hu ⊢ <;> simp [hu])
      clear hx
      go_wp2
      refine till_region (T := Till2 [18] (fun w' : World => w'.cell? ⟨w.heap.size + 1 + 1 + 1 + 1, 1, none⟩ = some v ∧ w'.cell? ⟨wr.heap.size, 0, none⟩ = some (.int .i64 A) ∧ w'.cell? ⟨wr.heap.size, 1, none⟩ = some (.int .i64 Bc) ∧ w'.cell? ⟨wr.heap.size, 2, none⟩ = some (.int .i64 C) ∧ w'.cell? ⟨wr.heap.size, 3, none⟩ = some (.int .i64 W)) [18] (fun _ : World => True)) (by kernel_rfl) ⟨till_hold hs1.out, till_hold trivial⟩ (fun _ => ?_)
      refine till_take1 (i := 0) (v := ?vn10) rfl (by kernel_rfl) (by kernel_rfl) (by kernel_rfl) (by kernel_rfl) (by kernel_rfl) (by kernel_rfl) (by kernel_rfl) (fun _ _ _ h => h) (Or.inl ⟨by rfl, ?yn10⟩) ⟨till_hold hs1.out, till_hold trivial⟩ (fun _ => ?rn10)
      case yn10 => (intro wS hSw; (try dsimp only at hSw); go_split_ands; go_simp <;> with_reducible rfl)
      (try simp only [Act.put, List.setIfInBounds_toArray, List.set_cons_zero, List.set_cons_succ])
      refine till_take1 (i := 1) (v := ?vn11) rfl (by kernel_rfl) (by kernel_rfl) (by kernel_rfl) (by kernel_rfl) (by kernel_rfl) (by kernel_rfl) (by kernel_rfl) (fun _ _ _ h => h) (Or.inl ⟨by rfl, ?yn11⟩) ⟨till_hold hs1.out, till_hold trivial⟩ (fun _ => ?rn11)
      case yn11 => (intro wS hSw; (try dsimp only at hSw); go_split_ands; go_simp <;> with_reducible rfl)
      (try simp only [Act.put, List.setIfInBounds_toArray, List.set_cons_zero, List.set_cons_succ])
      refine till_take1 (i := 2) (v := ?vn12) rfl (by kernel_rfl) (by kernel_rfl) (by kernel_rfl) (by kernel_rfl) (by kernel_rfl) (by kernel_rfl) (by kernel_rfl) (fun _ _ _ h => h) (Or.inl ⟨by rfl, ?yn12⟩) ⟨till_hold hs1.out, till_hold trivial⟩ (fun _ => ?rn12)
      case yn12 => (intro wS hSw; (try dsimp only at hSw); go_split_ands; go_simp <;> with_reducible rfl)
      (try simp only [Act.put, List.setIfInBounds_toArray, List.set_cons_zero, List.set_cons_succ])
      refine till_take1 (i := 3) (v := ?vn13) rfl (by kernel_rfl) (by kernel_rfl) (by kernel_rfl) (by kernel_rfl) (by kernel_rfl) (by kernel_rfl) (by kernel_rfl) (fun _ _ _ h => h) (Or.inl ⟨by rfl, ?yn13⟩) ⟨till_hold hs1.out, till_hold trivial⟩ (fun _ => ?rn13)
      case yn13 => (intro wS hSw; (try dsimp only at hSw); go_split_ands; go_simp <;> with_reducible rfl)
      (try simp only [Act.put, List.setIfInBounds_toArray, List.set_cons_zero, List.set_cons_succ])
      refine till_take1 (i := 4) (v := ?vn14) rfl (by kernel_rfl) (by kernel_rfl) (by kernel_rfl) (by kernel_rfl) (by kernel_rfl) (by kernel_rfl) (by kernel_rfl) (fun _ _ _ h => h) (Or.inl ⟨by rfl, ?yn14⟩) ⟨till_hold hs1.out, till_hold trivial⟩ (fun _ => ?rn14)
      case yn14 => (intro wS hSw; (try dsimp only at hSw); go_split_ands; go_simp <;> with_reducible rfl)
      (try simp only [Act.put, List.setIfInBounds_toArray, List.set_cons_zero, List.set_cons_succ])
      refine till_take1 (i := 6) (v := ?vn16) rfl (by kernel_rfl) (by kernel_rfl) (by kernel_rfl) (by kernel_rfl) (by kernel_rfl) (by kernel_rfl) (by kernel_rfl) (fun _ _ _ h => h) (Or.inl ⟨by rfl, ?yn16⟩) ⟨till_hold hs1.out, till_hold trivial⟩ (fun _ => ?rn16)
      case yn16 => (intro wS hSw; (try dsimp only at hSw); go_split_ands; go_simp <;> with_reducible rfl)
      (try simp only [Act.put, List.setIfInBounds_toArray, List.set_cons_zero, List.set_cons_succ])
      refine till_take1 (i := 7) (v := ?vn17) rfl (by kernel_rfl) (by kernel_rfl) (by kernel_rfl) (by kernel_rfl) (by kernel_rfl) (by kernel_rfl) (by kernel_rfl) (fun _ _ _ h => h) (Or.inl ⟨by rfl, ?yn17⟩) ⟨till_hold hs1.out, till_hold trivial⟩ (fun _ => ?rn17)
      case yn17 => (intro wS hSw; (try dsimp only at hSw); go_split_ands; go_simp <;> with_reducible rfl)
      (try simp only [Act.put, List.setIfInBounds_toArray, List.set_cons_zero, List.set_cons_succ])
      refine till_take1 (i := 8) (v := ?vn18) rfl (by kernel_rfl) (by kernel_rfl) (by kernel_rfl) (by kernel_rfl) (by kernel_rfl) (by kernel_rfl) (by kernel_rfl) (fun _ _ _ h => h) (Or.inl ⟨by rfl, ?yn18⟩) ⟨till_hold hs1.out, till_hold trivial⟩ (fun _ => ?rn18)
      case yn18 => (intro wS hSw; (try dsimp only at hSw); go_split_ands; go_simp <;> with_reducible rfl)
      (try simp only [Act.put, List.setIfInBounds_toArray, List.set_cons_zero, List.set_cons_succ])
      refine till_take1 (i := 10) (v := ?vn110) rfl (by kernel_rfl) (by kernel_rfl) (by kernel_rfl) (by kernel_rfl) (by kernel_rfl) (by kernel_rfl) (by kernel_rfl) (fun _ _ _ h => h) (Or.inl ⟨by rfl, ?yn110⟩) ⟨till_hold hs1.out, till_hold trivial⟩ (fun _ => ?rn110)
      case yn110 => (intro wS hSw; (try dsimp only at hSw); go_split_ands; go_simp <;> with_reducible rfl)
      (try simp only [Act.put, List.setIfInBounds_toArray, List.set_cons_zero, List.set_cons_succ])
      refine till_take1 (i := 11) (v := ?vn111) rfl (by kernel_rfl) (by kernel_rfl) (by kernel_rfl) (by kernel_rfl) (by kernel_rfl) (by kernel_rfl) (by kernel_rfl) (fun _ _ _ h => h) (Or.inl ⟨by rfl, ?yn111⟩) ⟨till_hold hs1.out, till_hold trivial⟩ (fun _ => ?rn111)
      case yn111 => (intro wS hSw; (try dsimp only at hSw); go_split_ands; go_simp <;> with_reducible rfl)
      (try simp only [Act.put, List.setIfInBounds_toArray, List.set_cons_zero, List.set_cons_succ])
      refine till_take1 (i := 12) (v := ?vn112) rfl (by kernel_rfl) (by kernel_rfl) (by kernel_rfl) (by kernel_rfl) (by kernel_rfl) (by kernel_rfl) (by kernel_rfl) (fun _ _ _ h => h) (Or.inl ⟨by rfl, ?yn112⟩) ⟨till_hold hs1.out, till_hold trivial⟩ (fun _ => ?rn112)
      case yn112 => (intro wS hSw; (try dsimp only at hSw); go_split_ands; go_simp <;> with_reducible rfl)
      (try simp only [Act.put, List.setIfInBounds_toArray, List.set_cons_zero, List.set_cons_succ])
      refine till_take1 (i := 13) (v := ?vn113) rfl (by kernel_rfl) (by kernel_rfl) (by kernel_rfl) (by kernel_rfl) (by kernel_rfl) (by kernel_rfl) (by kernel_rfl) (fun _ _ _ h => h) (Or.inl ⟨by rfl, ?yn113⟩) ⟨till_hold hs1.out, till_hold trivial⟩ (fun _ => ?rn113)
      case yn113 => (intro wS hSw; (try dsimp only at hSw); go_split_ands; go_simp <;> with_reducible rfl)
      (try simp only [Act.put, List.setIfInBounds_toArray, List.set_cons_zero, List.set_cons_succ])
      refine till_ready (i := 5) (o := _) (by kernel_rfl) rfl (fun K hK => ?_)
      go_simp
      refine (l_ren1 x y A (w.heap.size + 1) (w.heap.size + 1 + 1) _ (cdw (cal hcx (.cells #[.int .i64 A, .int .i64 Bc, .int .i64 C, .int .i64 W] 59))) (cdw (cal hcy (.cells #[.int .i64 A, .int .i64 Bc, .int .i64 C, .int .i64 W] 59)))).mono ?_
      rintro e wz ⟨rfl, rfl⟩
      refine hK.out _ _ ⟨till_hold hs1.out, till_hold trivial⟩ ?_
      clear hK K
      (try simp only [Act.put, List.setIfInBounds_toArray, List.set_cons_zero, List.set_cons_succ])
      refine till_ready (i := 9) (o := _) (by kernel_rfl) rfl (fun K hK => ?_)
      go_simp
      refine (l_ren1 x y Bc (w.heap.size + 1) (w.heap.size + 1 + 1) _ (cdw (cal hcx (.cells #[.int .i64 A, .int .i64 Bc, .int .i64 C, .int .i64 W] 59))) (cdw (cal hcy (.cells #[.int .i64 A, .int .i64 Bc, .int .i64 C, .int .i64 W] 59)))).mono ?_
      rintro e wz ⟨rfl, rfl⟩
      refine hK.out _ _ ⟨till_hold hs1.out, till_hold trivial⟩ ?_
      clear hK K
      (try simp only [Act.put, List.setIfInBounds_toArray, List.set_cons_zero, List.set_cons_succ])
      refine till_take1 (i := 14) (v := ?vn114) rfl (by kernel_rfl) (by kernel_rfl) (by kernel_rfl) (by kernel_rfl) (by kernel_rfl) (by kernel_rfl) (by kernel_rfl) (fun _ _ _ h => h) (Or.inl ⟨by rfl, ?yn114⟩) ⟨till_hold hs1.out, till_hold trivial⟩ (fun _ => ?rn114)
      case yn114 => (intro wS hSw; (try dsimp only at hSw); go_split_ands; go_simp <;> with_reducible rfl)
      (try simp only [Act.put, List.setIfInBounds_toArray, List.set_cons_zero, List.set_cons_succ])
      refine till_ready (i := 15) (o := _) (by kernel_rfl) rfl (fun K hK => ?_)
      go_simp
      refine hK.out _ _ ⟨till_hold hs2.out, till_hold trivial⟩ ?_
      clear hK K
      (try simp only [Act.put, List.setIfInBounds_toArray, List.set_cons_zero, List.set_cons_succ])
      refine till_ready (i := 16) (o := _) (by kernel_rfl) rfl (fun K hK => ?_)
      refine step_ap1 rfl _ _ 22 rfl (w.heap.size + 1 + 1 + 1 + 1 + 1) 59 (.agg #[.int .i64 0, .int .i64 0, .int .i64 0, .int .i64 0]) 4 32 info_off Try.underlying22 rfl (by decide) (by decide) v _ _ rfl hownA.out [.int .i64 (swI x y A), .int .i64 (swI x y Bc), .int .i64 C, .int .i64 W] (wr.heap.size + 1) rfl rfl ?cA1 rfl (by omega) (by have := hsz; simp; omega) ?_
      case cA1 => exact hnew.out
      intro v' w5 hown5 hgr hat
      obtain ⟨va, vc, rfl⟩ := own_form hown5
      have hs3 := Lib.hid (show (fun w' : World => w'.cell? ⟨w.heap.size + 1 + 1 + 1 + 1, 1, none⟩ = some v ∧ w'.cell? ⟨wr.heap.size, 0, none⟩ = some (.int .i64 A) ∧ w'.cell? ⟨wr.heap.size, 1, none⟩ = some (.int .i64 Bc) ∧ w'.cell? ⟨wr.heap.size, 2, none⟩ = some (.int .i64 C) ∧ w'.cell? ⟨wr.heap.size, 3, none⟩ = some (.int .i64 W)) w5 from ⟨grown_cell hgr hs2.out.1 (hqX.out ()), grown_cell hgr hs2.out.2.1 (hqN.out ()), grown_cell hgr hs2.out.2.2.1 (hqN.out ()), grown_cell hgr hs2.out.2.2.2.1 (hqN.out ()), grown_cell hgr hs2.out.2.2.2.2 (hqN.out ())⟩)
      have hBX5 := Lib.hid ((HBXB.out).grown hgr (hqX.out ()))
      have hz5 := hBX5.out.z1
      have hc5 := hs3.out.1
      refine hK.out _ _ ⟨till_hold hs3.out, till_hold trivial⟩ ?_
      clear hK K
      (try simp only [Act.put, List.setIfInBounds_toArray, List.set_cons_zero, List.set_cons_succ])
      refine till_ready (i := 17) (o := _) (by kernel_rfl) rfl (fun K hK => ?_)
      go_simp
      refine hK.out _ _ ⟨till_hold hs3.out, till_hold trivial⟩ ?_
      clear hK K
      (try simp only [Act.put, List.setIfInBounds_toArray, List.set_cons_zero, List.set_cons_succ])
      refine till_ready (i := 18) (o := _) (by kernel_rfl) rfl (fun K hK => ?_)
      go_simp
      refine hK.out _ _ ⟨till_gone (by kernel_rfl), till_gone (by kernel_rfl)⟩ ?_
      clear hK K
      (try simp only [Act.put, List.setIfInBounds_toArray, List.set_cons_zero, List.set_cons_succ])
      refine till_done (by kernel_rfl) ?_ _
      have hqX' : (Value.slice va (k + 1) vc).ownBlock ≠ some (w.heap.size + 1 + 1 + 1 + 1) := fun e => by
        rcases hat with h | h
        · rw [h] at e; exact hqX.out () e
        · rw [h] at e; injection e with e; simp at e; omega
      have HB6 := Lib.hid (hBX5.out.set1 (.slice va (k + 1) vc))
      have HOWN6 := Lib.hid (ownsRow_setCell_other hown5 (a := ⟨w.heap.size + 1 + 1 + 1 + 1, 1, none⟩) hqX' (.slice va (k + 1) vc))
      have HBL6 := Lib.hid (((HBL.out.trans (hbA.out.mono (Nat.le_of_lt hsz))).grown hgr (by have := hsz; simp; omega) (fun q e => by have := (HOWN.out.lt q e).1; omega)).setCell (p := ⟨w.heap.size + 1 + 1 + 1 + 1, 1, none⟩) (Nat.le_refl _) (.slice va (k + 1) vc))
      go_wp2
      go_roundw
      case rel =>
        refine ⟨k + 1, by omega, by go_num, ⟨.slice va (k + 1) vc, HB6.out, ?_⟩, HBL6.out⟩
        rw [take_snoc HX.out, List.map_append, List.flatMap_append]
        exact HOWN6.out
      case measure => simp [intOf]; omega
    · obtain rfl : kn = k := by omega
      have hm2 : wr.cell? ⟨w.heap.size, 2, none⟩ = some (.slice oa on oc) := (HBL.out.cell (p := ⟨w.heap.size, 2, none⟩) (by show w.heap.size < (w.heap.size + 1 + 1 + 1 + 1); omega)).trans HM2.out
      obtain ⟨v1a, v1c, rfl⟩ := own_form HOWN.out
      obtain ⟨a', c', hv1, hrd1⟩ := own_rd (enc := encO) (k := 4) (fun _ => rfl) (show wr.ownsRow (w.heap.size + 1 + 1 + 1 + 1 + 1) 59 4 (.slice v1a kn v1c) (m.ks.map (swO x y)).length ((m.ks.map (swO x y)).flatMap encO) from by
        have := HOWN.out
        rw [List.take_of_length_le (by rw [HKN.out]; exact Nat.le_refl _)] at this
        rw [List.length_map, HKN.out]; exact this)
      have ha' : v1a = a' := by injection hv1
      subst ha'
      have HRD1 := Lib.hid hrd1
      have HV1 := Lib.hid (fun (ad : Addr) (e : v1a = some ad) => show ad.block ≠ (w.heap.size + 1 + 1 + 1 + 1) from by have := (HOWN.out.lt ad.block (by rw [e]; rfl)).1; omega)
      have HV1b := Lib.hid (fun (ad : Addr) (e : v1a = some ad) => show ad.block ≠ w.heap.size + 1 + 1 + 1 from by have := (HOWN.out.lt ad.block (by rw [e]; rfl)).1; omega)
      obtain ⟨wS, rfl⟩ : ∃ wS : World, wS = wr := ⟨_, rfl⟩
      have HBS := Lib.hid HBX.out
      have hsS := HBX.out.lt
      have HBL2 := Lib.hid HBL.out
      clear hrd1 hv1 hBw hcx hcy HBX HOWN HBL
      go_wp2_with fail
      clear hm2
      go_loopw [46] (fun i wq => ∃ k2 : Nat, k2 ≤ on ∧ i = .int .i64 k2 ∧ (∃ v2, Bx wq (w.heap.size + 1 + 1 + 1 + 1) (.int .i64 m.n) (.slice v1a kn v1c) v2 ∧ wq.ownsRow wS.heap.size 59 4 v2 k2 (((m.os.take k2).map (swO x y)).flatMap encO)) ∧ Below (w.heap.size + 1 + 1 + 1 + 1) w1 wq ∧ KpC (w.heap.size + 1 + 1 + 1 + 1) (w.heap.size + 1 + 1 + 1 + 1) wS wq) (fun i _ => on - (intOf i).toNat)
      case atStart => exact ⟨0, Nat.zero_le _, rfl, ⟨_, HBS.out, World.ownsRow_nil _ _ _ _⟩, HBL2.out, KpC.refl _ _ _⟩
      case round =>
        clear HBS HBL2
        obtain ⟨k, hk, rfl, ⟨v2, hBX, hown⟩, hBL, hKP⟩ := hrel
        have hsk := hKP.size
        have hBw : Below w.heap.size w wr := HB1.out.trans (hBL.mono (by omega))
        have hcx : wr.cell? ⟨w.heap.size + 1, 0, none⟩ = some (.int .i64 x) := (hBL.cell (p := ⟨w.heap.size + 1, 0, none⟩) (by show w.heap.size + 1 < (w.heap.size + 1 + 1 + 1 + 1); omega)).trans HX1.out
        have hcy : wr.cell? ⟨w.heap.size + 1 + 1, 0, none⟩ = some (.int .i64 y) := (hBL.cell (p := ⟨w.heap.size + 1 + 1, 0, none⟩) (by show w.heap.size + 1 + 1 < (w.heap.size + 1 + 1 + 1 + 1); omega)).trans HY1.out
        have HBX := Lib.hid hBX
        have HOWN := Lib.hid hown
        have HBL := Lib.hid hBL
        have HKP := Lib.hid hKP
        clear hBX hown hBL hKP
        by_cases hlt : k < on
        · obtain ⟨b, off, o, rfl, hx, q0, q1, q2, q3⟩ := (HOS.out.below hBw).ato (i := k) (by rw [HON.out]; exact hlt)
          obtain ⟨A, Bc, C, W⟩ := o
          simp only at q0 q1 q2 q3
          have HX := Lib.hid hx
          have hsz := HBX.out.lt
          have hbA := Lib.hid (show Below wr.heap.size wr ((wr.alloc (.cells #[.int .i64 A, .int .i64 Bc, .int .i64 C, .int .i64 W] 59)).alloc (.cells #[.int .i64 (swI x y A), .int .i64 (swI x y Bc), .int .i64 C, .int .i64 W] 59)).drew from (bal (bal (Below.refl _ _) _) _).drew)
          have hs1 := Lib.hid (show (fun w' : World => w'.cell? ⟨w.heap.size + 1 + 1 + 1 + 1, 2, none⟩ = some v2 ∧ w'.cell? ⟨wr.heap.size, 0, none⟩ = some (.int .i64 A) ∧ w'.cell? ⟨wr.heap.size, 1, none⟩ = some (.int .i64 Bc) ∧ w'.cell? ⟨wr.heap.size, 2, none⟩ = some (.int .i64 C) ∧ w'.cell? ⟨wr.heap.size, 3, none⟩ = some (.int .i64 W)) (wr.alloc (.cells #[.int .i64 A, .int .i64 Bc, .int .i64 C, .int .i64 W] 59)).drew from ⟨cdw (cal HBX.out.c2 _), cdw (by simp), cdw (by simp), cdw (by simp), cdw (by simp)⟩)
          have hs2 := Lib.hid (show (fun w' : World => w'.cell? ⟨w.heap.size + 1 + 1 + 1 + 1, 2, none⟩ = some v2 ∧ w'.cell? ⟨wr.heap.size, 0, none⟩ = some (.int .i64 A) ∧ w'.cell? ⟨wr.heap.size, 1, none⟩ = some (.int .i64 Bc) ∧ w'.cell? ⟨wr.heap.size, 2, none⟩ = some (.int .i64 C) ∧ w'.cell? ⟨wr.heap.size, 3, none⟩ = some (.int .i64 W)) ((wr.alloc (.cells #[.int .i64 A, .int .i64 Bc, .int .i64 C, .int .i64 W] 59)).alloc (.cells #[.int .i64 (swI x y A), .int .i64 (swI x y Bc), .int .i64 C, .int .i64 W] 59)).drew from ⟨cdw (cal (cal HBX.out.c2 _) _), cdw (cal (by simp) _), cdw (cal (by simp) _), cdw (cal (by simp) _), cdw (cal (by simp) _)⟩)
          have HBXB := Lib.hid (HBX.out.below hbA.out)
          have hownA := Lib.hid (own_below HOWN.out hbA.out)
          have hqX : Hid (∀ u : Unit, v2.ownBlock ≠ some (w.heap.size + 1 + 1 + 1 + 1)) := Lib.hid (fun _ e => by have := (HOWN.out.lt _ e).1; omega)
          have hqN : Hid (∀ u : Unit, v2.ownBlock ≠ some wr.heap.size) := Lib.hid (fun _ e => by have := (HOWN.out.lt _ e).2; omega)
          have hnew : Hid (∀ t u, ([.int .i64 (swI x y A), .int .i64 (swI x y Bc), .int .i64 C, .int .i64 W] : List Value)[t]? = some u → ((wr.alloc (.cells #[.int .i64 A, .int .i64 Bc, .int .i64 C, .int .i64 W] 59)).alloc (.cells #[.int .i64 (swI x y A), .int .i64 (swI x y Bc), .int .i64 C, .int .i64 W] 59)).drew.cell? ⟨wr.heap.size + 1, t, none⟩ = some u) := Lib.hid (fun t u hu => by rcases t with _ | _ | _ | _ | t <;> simp at hu ⊢ <;> simp [hu])
          clear hx
          go_wp2
          refine till_region (T := Till2 [18] (fun w' : World => w'.cell? ⟨w.heap.size + 1 + 1 + 1 + 1, 2, none⟩ = some v2 ∧ w'.cell? ⟨wr.heap.size, 0, none⟩ = some (.int .i64 A) ∧ w'.cell? ⟨wr.heap.size, 1, none⟩ = some (.int .i64 Bc) ∧ w'.cell? ⟨wr.heap.size, 2, none⟩ = some (.int .i64 C) ∧ w'.cell? ⟨wr.heap.size, 3, none⟩ = some (.int .i64 W)) [18] (fun _ : World => True)) (by kernel_rfl) ⟨till_hold hs1.out, till_hold trivial⟩ (fun _ => ?_)
          refine till_take1 (i := 0) (v := ?vn20) rfl (by kernel_rfl) (by kernel_rfl) (by kernel_rfl) (by kernel_rfl) (by kernel_rfl) (by kernel_rfl) (by kernel_rfl) (fun _ _ _ h => h) (Or.inl ⟨by rfl, ?yn20⟩) ⟨till_hold hs1.out, till_hold trivial⟩ (fun _ => ?rn20)
          case yn20 => (intro wS hSw; (try dsimp only at hSw); go_split_ands; go_simp <;> with_reducible rfl)
          (try simp only [Act.put, List.setIfInBounds_toArray, List.set_cons_zero, List.set_cons_succ])
          refine till_take1 (i := 1) (v := ?vn21) rfl (by kernel_rfl) (by kernel_rfl) (by kernel_rfl) (by kernel_rfl) (by kernel_rfl) (by kernel_rfl) (by kernel_rfl) (fun _ _ _ h => h) (Or.inl ⟨by rfl, ?yn21⟩) ⟨till_hold hs1.out, till_hold trivial⟩ (fun _ => ?rn21)
          case yn21 => (intro wS hSw; (try dsimp only at hSw); go_split_ands; go_simp <;> with_reducible rfl)
          (try simp only [Act.put, List.setIfInBounds_toArray, List.set_cons_zero, List.set_cons_succ])
          refine till_take1 (i := 2) (v := ?vn22) rfl (by kernel_rfl) (by kernel_rfl) (by kernel_rfl) (by kernel_rfl) (by kernel_rfl) (by kernel_rfl) (by kernel_rfl) (fun _ _ _ h => h) (Or.inl ⟨by rfl, ?yn22⟩) ⟨till_hold hs1.out, till_hold trivial⟩ (fun _ => ?rn22)
          case yn22 => (intro wS hSw; (try dsimp only at hSw); go_split_ands; go_simp <;> with_reducible rfl)
          (try simp only [Act.put, List.setIfInBounds_toArray, List.set_cons_zero, List.set_cons_succ])
          refine till_take1 (i := 3) (v := ?vn23) rfl (by kernel_rfl) (by kernel_rfl) (by kernel_rfl) (by kernel_rfl) (by kernel_rfl) (by kernel_rfl) (by kernel_rfl) (fun _ _ _ h => h) (Or.inl ⟨by rfl, ?yn23⟩) ⟨till_hold hs1.out, till_hold trivial⟩ (fun _ => ?rn23)
          case yn23 => (intro wS hSw; (try dsimp only at hSw); go_split_ands; go_simp <;> with_reducible rfl)
          (try simp only [Act.put, List.setIfInBounds_toArray, List.set_cons_zero, List.set_cons_succ])
          refine till_take1 (i := 4) (v := ?vn24) rfl (by kernel_rfl) (by kernel_rfl) (by kernel_rfl) (by kernel_rfl) (by kernel_rfl) (by kernel_rfl) (by kernel_rfl) (fun _ _ _ h => h) (Or.inl ⟨by rfl, ?yn24⟩) ⟨till_hold hs1.out, till_hold trivial⟩ (fun _ => ?rn24)
          case yn24 => (intro wS hSw; (try dsimp only at hSw); go_split_ands; go_simp <;> with_reducible rfl)
          (try simp only [Act.put, List.setIfInBounds_toArray, List.set_cons_zero, List.set_cons_succ])
          refine till_take1 (i := 6) (v := ?vn26) rfl (by kernel_rfl) (by kernel_rfl) (by kernel_rfl) (by kernel_rfl) (by kernel_rfl) (by kernel_rfl) (by kernel_rfl) (fun _ _ _ h => h) (Or.inl ⟨by rfl, ?yn26⟩) ⟨till_hold hs1.out, till_hold trivial⟩ (fun _ => ?rn26)
          case yn26 => (intro wS hSw; (try dsimp only at hSw); go_split_ands; go_simp <;> with_reducible rfl)
          (try simp only [Act.put, List.setIfInBounds_toArray, List.set_cons_zero, List.set_cons_succ])
          refine till_take1 (i := 7) (v := ?vn27) rfl (by kernel_rfl) (by kernel_rfl) (by kernel_rfl) (by kernel_rfl) (by kernel_rfl) (by kernel_rfl) (by kernel_rfl) (fun _ _ _ h => h) (Or.inl ⟨by rfl, ?yn27⟩) ⟨till_hold hs1.out, till_hold trivial⟩ (fun _ => ?rn27)
          case yn27 => (intro wS hSw; (try dsimp only at hSw); go_split_ands; go_simp <;> with_reducible rfl)
          (try simp only [Act.put, List.setIfInBounds_toArray, List.set_cons_zero, List.set_cons_succ])
          refine till_take1 (i := 8) (v := ?vn28) rfl (by kernel_rfl) (by kernel_rfl) (by kernel_rfl) (by kernel_rfl) (by kernel_rfl) (by kernel_rfl) (by kernel_rfl) (fun _ _ _ h => h) (Or.inl ⟨by rfl, ?yn28⟩) ⟨till_hold hs1.out, till_hold trivial⟩ (fun _ => ?rn28)
          case yn28 => (intro wS hSw; (try dsimp only at hSw); go_split_ands; go_simp <;> with_reducible rfl)
          (try simp only [Act.put, List.setIfInBounds_toArray, List.set_cons_zero, List.set_cons_succ])
          refine till_take1 (i := 10) (v := ?vn210) rfl (by kernel_rfl) (by kernel_rfl) (by kernel_rfl) (by kernel_rfl) (by kernel_rfl) (by kernel_rfl) (by kernel_rfl) (fun _ _ _ h => h) (Or.inl ⟨by rfl, ?yn210⟩) ⟨till_hold hs1.out, till_hold trivial⟩ (fun _ => ?rn210)
          case yn210 => (intro wS hSw; (try dsimp only at hSw); go_split_ands; go_simp <;> with_reducible rfl)
          (try simp only [Act.put, List.setIfInBounds_toArray, List.set_cons_zero, List.set_cons_succ])
          refine till_take1 (i := 11) (v := ?vn211) rfl (by kernel_rfl) (by kernel_rfl) (by kernel_rfl) (by kernel_rfl) (by kernel_rfl) (by kernel_rfl) (by kernel_rfl) (fun _ _ _ h => h) (Or.inl ⟨by rfl, ?yn211⟩) ⟨till_hold hs1.out, till_hold trivial⟩ (fun _ => ?rn211)
          case yn211 => (intro wS hSw; (try dsimp only at hSw); go_split_ands; go_simp <;> with_reducible rfl)
          (try simp only [Act.put, List.setIfInBounds_toArray, List.set_cons_zero, List.set_cons_succ])
          refine till_take1 (i := 12) (v := ?vn212) rfl (by kernel_rfl) (by kernel_rfl) (by kernel_rfl) (by kernel_rfl) (by kernel_rfl) (by kernel_rfl) (by kernel_rfl) (fun _ _ _ h => h) (Or.inl ⟨by rfl, ?yn212⟩) ⟨till_hold hs1.out, till_hold trivial⟩ (fun _ => ?rn212)
          case yn212 => (intro wS hSw; (try dsimp only at hSw); go_split_ands; go_simp <;> with_reducible rfl)
          (try simp only [Act.put, List.setIfInBounds_toArray, List.set_cons_zero, List.set_cons_succ])
          refine till_take1 (i := 13) (v := ?vn213) rfl (by kernel_rfl) (by kernel_rfl) (by kernel_rfl) (by kernel_rfl) (by kernel_rfl) (by kernel_rfl) (by kernel_rfl) (fun _ _ _ h => h) (Or.inl ⟨by rfl, ?yn213⟩) ⟨till_hold hs1.out, till_hold trivial⟩ (fun _ => ?rn213)
          case yn213 => (intro wS hSw; (try dsimp only at hSw); go_split_ands; go_simp <;> with_reducible rfl)
          (try simp only [Act.put, List.setIfInBounds_toArray, List.set_cons_zero, List.set_cons_succ])
          refine till_ready (i := 5) (o := _) (by kernel_rfl) rfl (fun K hK => ?_)
          go_simp
          refine (l_ren1 x y A (w.heap.size + 1) (w.heap.size + 1 + 1) _ (cdw (cal hcx (.cells #[.int .i64 A, .int .i64 Bc, .int .i64 C, .int .i64 W] 59))) (cdw (cal hcy (.cells #[.int .i64 A, .int .i64 Bc, .int .i64 C, .int .i64 W] 59)))).mono ?_
          rintro e wz ⟨rfl, rfl⟩
          refine hK.out _ _ ⟨till_hold hs1.out, till_hold trivial⟩ ?_
          clear hK K
          (try simp only [Act.put, List.setIfInBounds_toArray, List.set_cons_zero, List.set_cons_succ])
          refine till_ready (i := 9) (o := _) (by kernel_rfl) rfl (fun K hK => ?_)
          go_simp
          refine (l_ren1 x y Bc (w.heap.size + 1) (w.heap.size + 1 + 1) _ (cdw (cal hcx (.cells #[.int .i64 A, .int .i64 Bc, .int .i64 C, .int .i64 W] 59))) (cdw (cal hcy (.cells #[.int .i64 A, .int .i64 Bc, .int .i64 C, .int .i64 W] 59)))).mono ?_
          rintro e wz ⟨rfl, rfl⟩
          refine hK.out _ _ ⟨till_hold hs1.out, till_hold trivial⟩ ?_
          clear hK K
          (try simp only [Act.put, List.setIfInBounds_toArray, List.set_cons_zero, List.set_cons_succ])
          refine till_take1 (i := 14) (v := ?vn214) rfl (by kernel_rfl) (by kernel_rfl) (by kernel_rfl) (by kernel_rfl) (by kernel_rfl) (by kernel_rfl) (by kernel_rfl) (fun _ _ _ h => h) (Or.inl ⟨by rfl, ?yn214⟩) ⟨till_hold hs1.out, till_hold trivial⟩ (fun _ => ?rn214)
          case yn214 => (intro wS hSw; (try dsimp only at hSw); go_split_ands; go_simp <;> with_reducible rfl)
          (try simp only [Act.put, List.setIfInBounds_toArray, List.set_cons_zero, List.set_cons_succ])
          refine till_ready (i := 15) (o := _) (by kernel_rfl) rfl (fun K hK => ?_)
          go_simp
          refine hK.out _ _ ⟨till_hold hs2.out, till_hold trivial⟩ ?_
          clear hK K
          (try simp only [Act.put, List.setIfInBounds_toArray, List.set_cons_zero, List.set_cons_succ])
          refine till_ready (i := 16) (o := _) (by kernel_rfl) rfl (fun K hK => ?_)
          refine step_ap1 rfl _ _ 22 rfl wS.heap.size 59 (.agg #[.int .i64 0, .int .i64 0, .int .i64 0, .int .i64 0]) 4 32 info_off Try.underlying22 rfl (by decide) (by decide) v2 _ _ rfl hownA.out [.int .i64 (swI x y A), .int .i64 (swI x y Bc), .int .i64 C, .int .i64 W] (wr.heap.size + 1) rfl rfl ?cA2 rfl (by omega) (by have := hsz; simp; omega) ?_
          case cA2 => exact hnew.out
          intro v' w5 hown5 hgr hat
          obtain ⟨va, vc, rfl⟩ := own_form hown5
          have hs3 := Lib.hid (show (fun w' : World => w'.cell? ⟨w.heap.size + 1 + 1 + 1 + 1, 2, none⟩ = some v2 ∧ w'.cell? ⟨wr.heap.size, 0, none⟩ = some (.int .i64 A) ∧ w'.cell? ⟨wr.heap.size, 1, none⟩ = some (.int .i64 Bc) ∧ w'.cell? ⟨wr.heap.size, 2, none⟩ = some (.int .i64 C) ∧ w'.cell? ⟨wr.heap.size, 3, none⟩ = some (.int .i64 W)) w5 from ⟨grown_cell hgr hs2.out.1 (hqX.out ()), grown_cell hgr hs2.out.2.1 (hqN.out ()), grown_cell hgr hs2.out.2.2.1 (hqN.out ()), grown_cell hgr hs2.out.2.2.2.1 (hqN.out ()), grown_cell hgr hs2.out.2.2.2.2 (hqN.out ())⟩)
          have hBX5 := Lib.hid ((HBXB.out).grown hgr (hqX.out ()))
          have hz5 := hBX5.out.z2
          have hc5 := hs3.out.1
          refine hK.out _ _ ⟨till_hold hs3.out, till_hold trivial⟩ ?_
          clear hK K
          (try simp only [Act.put, List.setIfInBounds_toArray, List.set_cons_zero, List.set_cons_succ])
          refine till_ready (i := 17) (o := _) (by kernel_rfl) rfl (fun K hK => ?_)
          go_simp
          refine hK.out _ _ ⟨till_hold hs3.out, till_hold trivial⟩ ?_
          clear hK K
          (try simp only [Act.put, List.setIfInBounds_toArray, List.set_cons_zero, List.set_cons_succ])
          refine till_ready (i := 18) (o := _) (by kernel_rfl) rfl (fun K hK => ?_)
          go_simp
          refine hK.out _ _ ⟨till_gone (by kernel_rfl), till_gone (by kernel_rfl)⟩ ?_
          clear hK K
          (try simp only [Act.put, List.setIfInBounds_toArray, List.set_cons_zero, List.set_cons_succ])
          refine till_done (by kernel_rfl) ?_ _
          have hqX' : (Value.slice va (k + 1) vc).ownBlock ≠ some (w.heap.size + 1 + 1 + 1 + 1) := fun e => by
            rcases hat with h | h
            · rw [h] at e; exact hqX.out () e
            · rw [h] at e; injection e with e; simp at e; omega
          have HB6 := Lib.hid (hBX5.out.set2 (.slice va (k + 1) vc))
          have HOWN6 := Lib.hid (ownsRow_setCell_other hown5 (a := ⟨w.heap.size + 1 + 1 + 1 + 1, 2, none⟩) hqX' (.slice va (k + 1) vc))
          have HBL6 := Lib.hid (((HBL.out.trans (hbA.out.mono (Nat.le_of_lt hsz))).grown hgr (by have := hsz; simp; omega) (fun q e => by have := (HOWN.out.lt q e).1; omega)).setCell (p := ⟨w.heap.size + 1 + 1 + 1 + 1, 2, none⟩) (Nat.le_refl _) (.slice va (k + 1) vc))
          have HKP6 := Lib.hid (((HKP.out.below hbA.out).grown hgr (fun q e => (HOWN.out.lt q e).1)).set (p := ⟨w.heap.size + 1 + 1 + 1 + 1, 2, none⟩) (.slice va (k + 1) vc) (.inl rfl))
          go_wp2
          go_roundw
          case rel =>
            refine ⟨k + 1, by omega, by go_num, ⟨.slice va (k + 1) vc, HB6.out, ?_⟩, HBL6.out, HKP6.out⟩
            rw [take_snoc HX.out, List.map_append, List.flatMap_append]
            exact HOWN6.out
          case measure => simp [intOf]; omega
        · obtain rfl : k = on := by omega
          obtain ⟨v2a, v2c, rfl⟩ := own_form HOWN.out
          obtain ⟨a', c', hv2, hrd2⟩ := own_rd (enc := encO) (k := 4) (fun _ => rfl) (show wr.ownsRow wS.heap.size 59 4 (.slice v2a k v2c) (m.os.map (swO x y)).length ((m.os.map (swO x y)).flatMap encO) from by
            have := HOWN.out
            rw [List.take_of_length_le (by rw [HON.out]; exact Nat.le_refl _)] at this
            rw [List.length_map, HON.out]; exact this)
          have ha' : v2a = a' := by injection hv2
          subst ha'
          have HRD2 := Lib.hid hrd2
          have HV2 := Lib.hid (fun (ad : Addr) (e : v2a = some ad) => show w.heap.size + 1 + 1 + 1 < ad.block from by have := (HOWN.out.lt ad.block (by rw [e]; rfl)).1; omega)
          have HRX := Lib.hid (HR1.out.keep HBL.out (by omega))
          have c0 := HBX.out.c0
          have c1 := HBX.out.c1
          have c2 := HBX.out.c2
          have r0 := HRX.out.c0
          have r1 := HRX.out.c1
          have r2 := HRX.out.c2
          have z0 := HRX.out.z0
          have z1 := HRX.out.z1
          have z2 := HRX.out.z2
          have HRF := Lib.hid (((HRX.out.set0 (.int .i64 m.n)).set1 (.slice v1a kn v1c)).set2 (.slice v2a k v2c))
          have hBw2 := Lib.hid hBw
          clear hrd2 hv2 hBw hcx hcy
          go_wp2
          have f0 := HRF.out.c0
          have f1 := HRF.out.c1
          have f2 := HRF.out.c2
          refine bodyPost_ret (v := .agg #[.int .i64 m.n, .slice v1a kn v1c, .slice v2a k v2c]) (by simp [results, Try.results29, go_sem, f0, f1, f2]) rfl ?_
          refine ⟨_, rfl, ⟨v1a, v1c, v2a, v2c, (by show _ = Value.agg #[.int .i64 m.n, .slice v1a (m.ks.map (swO x y)).length v1c, .slice v2a (m.os.map (swO x y)).length v2c]; rw [List.length_map, List.length_map, HKN.out, HON.out]), ?_, ?_, by show (m.ks.map (swO x y)).length ≤ _; rw [List.length_map, HKN.out]; omega, by show (m.os.map (swO x y)).length ≤ _; rw [List.length_map, HON.out]; omega⟩, ?_⟩
          · exact (((HRD1.out.kpc HKP.out (fun ad e => ⟨HV1.out ad e, HV1.out ad e⟩)).setOther _ (fun ad e => HV1b.out ad e)).setOther _ (fun ad e => HV1b.out ad e)).setOther _ (fun ad e => HV1b.out ad e)
          · exact ((HRD2.out.setOther _ (fun ad e => by have := HV2.out ad e; show ad.block ≠ w.heap.size + 1 + 1 + 1; omega)).setOther _ (fun ad e => by have := HV2.out ad e; show ad.block ≠ w.heap.size + 1 + 1 + 1; omega)).setOther _ (fun ad e => by have := HV2.out ad e; show ad.block ≠ w.heap.size + 1 + 1 + 1; omega)
          · exact ((hBw2.out.setCell (by show w.heap.size ≤ w.heap.size + 1 + 1 + 1; omega) _).setCell (by show w.heap.size ≤ w.heap.size + 1 + 1 + 1; omega) _).setCell (by show w.heap.size ≤ w.heap.size + 1 + 1 + 1; omega) _
end Go.Proofs.Ytjdldmecjhddnaa
