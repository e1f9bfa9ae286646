/- KeeperFronts: what it computes is true. -/
import Derived.Test.YtjdldmecjhddnaaK18
import Derived.Test.YtjdldmecjhddnaaK20
import Derived.Test.YtjdldmecjhddnaaKA4
namespace Go.Proofs.Ytjdldmecjhddnaa
open Go.RowKit
set_option linter.unusedVariables false
set_option linter.unusedSimpArgs false

theorem k_FrontsG (m : Mk) (mv : Value) (a : Int) (rows : List (List (Int × Int))) (er : Int) (n : Nat) (w : World) (hm : MkRd w m mv) (hr : frontsLF m a = (rows, er)) (hn : rows.length = n) :
    Calls Try.prog 31 #[mv, .int .i64 a] w fun e w' => ∃ va vc, e = .returned (.tuple #[.slice va n vc, .int .i64 er]) ∧ RdLL w' va rows ∧ Below w.heap.size w w' := by
  refine (k_Fronts m mv a w hm).mono ?_
  rintro e w' ⟨va, vc, he, hl, hb⟩
  rw [hr] at he hl
  subst hn
  exact ⟨va, vc, he, hl, hb⟩
theorem r_FrontsG (m : Mk) (mv : Value) (a : Int) (rows : List (List (Int × Int))) (er : Int) (n : Nat) (w : World) (hm : MkRd w m mv) (hr : frontsLF m a = (rows, er)) (hn : rows.length = n) :
    Calls Try.prog 49 #[mv, .int .i64 a] w fun e w' => ∃ va vc, e = .returned (.tuple #[.slice va n vc, .int .i64 er]) ∧ RdLL w' va rows ∧ Below w.heap.size w w' := by
  refine (r_Fronts m mv a w hm).mono ?_
  rintro e w' ⟨va, vc, he, hl, hb⟩
  rw [hr] at he hl
  subst hn
  exact ⟨va, vc, he, hl, hb⟩
set_option maxHeartbeats 8000000 in
set_option maxRecDepth 100000 in
theorem law_Fronts (m : Mk) (mv : Value) (a : Int) (ll : List (List (Int × Int))) (la : Option Addr) (ln lc : Nat) (w : World) (hm : MkRd w m mv) (hln : ll.length = ln) (hl : RdLL w la ll) (hll : ln ≤ 9223372036854775807) (hkk : ∀ l ∈ ll, l.length ≤ 9223372036854775807) :
    Calls Try.prog 11 #[mv, .int .i64 a, .slice la ln lc] w fun e w' => e = .returned (.bool true) ∧ Below w.heap.size w w' := by
  have HM := Lib.hid hm
  obtain ⟨ka, kc, oa, oc, rfl, _⟩ := hm
  have HL := Lib.hid hl
  have HLN := Lib.hid hln
  have HKK := Lib.hid hkk
  clear hl hln hkk
  cases hfew : fewB m with
  | false =>
    have HFEW := Lib.hid hfew
    clear hfew
    go_enter Try.func11, Try.ntmps11
    go_wp2_with fail
    refine (l_sane _).mono ?_
    rintro e w1 ⟨rfl, hb⟩
    have hbk : Below w.heap.size w w1 := bthen (bal (Below.refl _ _) (.cells #[.int .i64 m.n, .slice ka m.ks.length kc, .slice oa m.os.length oc] 24)) hb
    have m0 := below_cell hb (show (w.alloc (.cells #[.int .i64 m.n, .slice ka m.ks.length kc, .slice oa m.os.length oc] 24)).cell? ⟨w.heap.size, 0, none⟩ = some (.int .i64 m.n) from by simp)
    have m1 := below_cell hb (show (w.alloc (.cells #[.int .i64 m.n, .slice ka m.ks.length kc, .slice oa m.os.length oc] 24)).cell? ⟨w.heap.size, 1, none⟩ = some (.slice ka m.ks.length kc) from by simp)
    have m2 := below_cell hb (show (w.alloc (.cells #[.int .i64 m.n, .slice ka m.ks.length kc, .slice oa m.os.length oc] 24)).cell? ⟨w.heap.size, 2, none⟩ = some (.slice oa m.os.length oc) from by simp)
    have hlt_m0 : w.heap.size < w1.heap.size := World.block_lt_of_cell? w1 _ m0
    replace HM := Lib.hid (HM.out.below hbk)
    replace HL := Lib.hid (HL.out.below hbk)
    have hB := hbk
    clear hbk hb
    go_wp2_with fail
    refine (l_few m _ _ (by exact HM.out.below (Below.refl _ _))).mono ?_
    rintro e w2 ⟨rfl, hb⟩
    rw [HFEW.out]
    have hbk : Below w1.heap.size w1 w2 := bthen (Below.refl _ _) hb
    replace m0 := below_cell hbk m0
    replace m1 := below_cell hbk m1
    replace m2 := below_cell hbk m2
    replace hlt_m0 : w.heap.size < w2.heap.size := World.block_lt_of_cell? w2 _ m0
    replace HM := Lib.hid (HM.out.below hbk)
    replace HL := Lib.hid (HL.out.below hbk)
    replace hB := bthen hB hbk
    clear hbk hb
    go_wp2
    go_ret
    exact ⟨rfl, hB⟩
  | true =>
    have HFEW := Lib.hid hfew
    clear hfew
    by_cases h20 : 20 < ln
    · go_enter Try.func11, Try.ntmps11
      go_wp2_with fail
      refine (l_sane _).mono ?_
      rintro e w1 ⟨rfl, hb⟩
      have hbk : Below w.heap.size w w1 := bthen (bal (Below.refl _ _) (.cells #[.int .i64 m.n, .slice ka m.ks.length kc, .slice oa m.os.length oc] 24)) hb
      have m0 := below_cell hb (show (w.alloc (.cells #[.int .i64 m.n, .slice ka m.ks.length kc, .slice oa m.os.length oc] 24)).cell? ⟨w.heap.size, 0, none⟩ = some (.int .i64 m.n) from by simp)
      have m1 := below_cell hb (show (w.alloc (.cells #[.int .i64 m.n, .slice ka m.ks.length kc, .slice oa m.os.length oc] 24)).cell? ⟨w.heap.size, 1, none⟩ = some (.slice ka m.ks.length kc) from by simp)
      have m2 := below_cell hb (show (w.alloc (.cells #[.int .i64 m.n, .slice ka m.ks.length kc, .slice oa m.os.length oc] 24)).cell? ⟨w.heap.size, 2, none⟩ = some (.slice oa m.os.length oc) from by simp)
      have hlt_m0 : w.heap.size < w1.heap.size := World.block_lt_of_cell? w1 _ m0
      replace HM := Lib.hid (HM.out.below hbk)
      replace HL := Lib.hid (HL.out.below hbk)
      have hB := hbk
      clear hbk hb
      go_wp2_with fail
      refine (l_few m _ _ (by exact HM.out.below (Below.refl _ _))).mono ?_
      rintro e w2 ⟨rfl, hb⟩
      rw [HFEW.out]
      have hbk : Below w1.heap.size w1 w2 := bthen (Below.refl _ _) hb
      replace m0 := below_cell hbk m0
      replace m1 := below_cell hbk m1
      replace m2 := below_cell hbk m2
      replace hlt_m0 : w.heap.size < w2.heap.size := World.block_lt_of_cell? w2 _ m0
      replace HM := Lib.hid (HM.out.below hbk)
      replace HL := Lib.hid (HL.out.below hbk)
      replace hB := bthen hB hbk
      clear hbk hb
      go_wp2
      go_ret
      exact ⟨rfl, hB⟩
    · have hn20 : ln ≤ 20 := by omega
      cases hlg : (ll.any fun l => decide (100 < l.length)) with
      | true =>
        have HLG := Lib.hid hlg
        clear hlg
        go_enter Try.func11, Try.ntmps11
        go_wp2_with fail
        refine (l_sane _).mono ?_
        rintro e w1 ⟨rfl, hb⟩
        have hbk : Below w.heap.size w w1 := bthen (bal (Below.refl _ _) (.cells #[.int .i64 m.n, .slice ka m.ks.length kc, .slice oa m.os.length oc] 24)) hb
        have m0 := below_cell hb (show (w.alloc (.cells #[.int .i64 m.n, .slice ka m.ks.length kc, .slice oa m.os.length oc] 24)).cell? ⟨w.heap.size, 0, none⟩ = some (.int .i64 m.n) from by simp)
        have m1 := below_cell hb (show (w.alloc (.cells #[.int .i64 m.n, .slice ka m.ks.length kc, .slice oa m.os.length oc] 24)).cell? ⟨w.heap.size, 1, none⟩ = some (.slice ka m.ks.length kc) from by simp)
        have m2 := below_cell hb (show (w.alloc (.cells #[.int .i64 m.n, .slice ka m.ks.length kc, .slice oa m.os.length oc] 24)).cell? ⟨w.heap.size, 2, none⟩ = some (.slice oa m.os.length oc) from by simp)
        have hlt_m0 : w.heap.size < w1.heap.size := World.block_lt_of_cell? w1 _ m0
        replace HM := Lib.hid (HM.out.below hbk)
        replace HL := Lib.hid (HL.out.below hbk)
        have hB := hbk
        clear hbk hb
        go_wp2_with fail
        refine (l_few m _ _ (by exact HM.out.below (Below.refl _ _))).mono ?_
        rintro e w2 ⟨rfl, hb⟩
        rw [HFEW.out]
        have hbk : Below w1.heap.size w1 w2 := bthen (Below.refl _ _) hb
        replace m0 := below_cell hbk m0
        replace m1 := below_cell hbk m1
        replace m2 := below_cell hbk m2
        replace hlt_m0 : w.heap.size < w2.heap.size := World.block_lt_of_cell? w2 _ m0
        replace HM := Lib.hid (HM.out.below hbk)
        replace HL := Lib.hid (HL.out.below hbk)
        replace hB := bthen hB hbk
        clear hbk hb
        go_wp2_with fail
        refine (c_Long100 ll la ln lc true _ HLN.out HLG.out (by exact HL.out.below (Below.refl _ _)) (by omega) HKK.out).mono ?_
        rintro e w3 ⟨rfl, hb⟩
        have hbk : Below w2.heap.size w2 w3 := bthen (Below.refl _ _) hb
        replace m0 := below_cell hbk m0
        replace m1 := below_cell hbk m1
        replace m2 := below_cell hbk m2
        replace hlt_m0 : w.heap.size < w3.heap.size := World.block_lt_of_cell? w3 _ m0
        replace HM := Lib.hid (HM.out.below hbk)
        replace HL := Lib.hid (HL.out.below hbk)
        replace hB := bthen hB hbk
        clear hbk hb
        go_wp2
        go_ret
        exact ⟨rfl, hB⟩
      | false =>
        have HLG := Lib.hid hlg
        have HK2 := Lib.hid (show ∀ l ∈ ll, l.length ≤ 140737488355328 from fun l hl => by
          have := List.any_eq_false.1 HLG.out l hl
          simp only [decide_eq_true_eq] at this
          omega)
        clear hlg
        obtain ⟨C, hC⟩ : ∃ C, Hid (C = checkF m a ll) := ⟨_, Lib.hid rfl⟩
        have hwl := frontsLF_len m a
        rcases (show askE m [] [a] [] = 1 ∨ askE m [] [a] [] = 80 ∨ askE m [] [a] [] = 0 by have := askE_range m [] [a] []; omega) with he0 | he0 | he0
        · have he : askE m [] [a] [] ≠ 0 := by rw [he0]; decide
          obtain ⟨rows, hrows⟩ : ∃ rows, frontsLF m a = (rows, 1) := ⟨[], by unfold frontsLF; rw [if_pos he, he0]⟩
          rw [hrows] at hwl
          have HWL := Lib.hid hwl
          obtain ⟨n, hn⟩ : ∃ n, rows.length = n := ⟨_, rfl⟩
          have hn8 : n ≤ 8 := by rw [← hn]; exact hwl.1
          have HWS := Lib.hid hrows
          have HN := Lib.hid hn
          clear hwl hrows hn he he0
          go_enter Try.func11, Try.ntmps11
          go_wp2_with fail
          refine (l_sane _).mono ?_
          rintro e w1 ⟨rfl, hb⟩
          have hbk : Below w.heap.size w w1 := bthen (bal (Below.refl _ _) (.cells #[.int .i64 m.n, .slice ka m.ks.length kc, .slice oa m.os.length oc] 24)) hb
          have m0 := below_cell hb (show (w.alloc (.cells #[.int .i64 m.n, .slice ka m.ks.length kc, .slice oa m.os.length oc] 24)).cell? ⟨w.heap.size, 0, none⟩ = some (.int .i64 m.n) from by simp)
          have m1 := below_cell hb (show (w.alloc (.cells #[.int .i64 m.n, .slice ka m.ks.length kc, .slice oa m.os.length oc] 24)).cell? ⟨w.heap.size, 1, none⟩ = some (.slice ka m.ks.length kc) from by simp)
          have m2 := below_cell hb (show (w.alloc (.cells #[.int .i64 m.n, .slice ka m.ks.length kc, .slice oa m.os.length oc] 24)).cell? ⟨w.heap.size, 2, none⟩ = some (.slice oa m.os.length oc) from by simp)
          have hlt_m0 : w.heap.size < w1.heap.size := World.block_lt_of_cell? w1 _ m0
          replace HM := Lib.hid (HM.out.below hbk)
          replace HL := Lib.hid (HL.out.below hbk)
          have hB := hbk
          clear hbk hb
          go_wp2_with fail
          refine (l_few m _ _ (by exact HM.out.below (Below.refl _ _))).mono ?_
          rintro e w2 ⟨rfl, hb⟩
          rw [HFEW.out]
          have hbk : Below w1.heap.size w1 w2 := bthen (Below.refl _ _) hb
          replace m0 := below_cell hbk m0
          replace m1 := below_cell hbk m1
          replace m2 := below_cell hbk m2
          replace hlt_m0 : w.heap.size < w2.heap.size := World.block_lt_of_cell? w2 _ m0
          replace HM := Lib.hid (HM.out.below hbk)
          replace HL := Lib.hid (HL.out.below hbk)
          replace hB := bthen hB hbk
          clear hbk hb
          go_wp2_with fail
          refine (c_Long100 ll la ln lc false _ HLN.out HLG.out (by exact HL.out.below (Below.refl _ _)) (by omega) HKK.out).mono ?_
          rintro e w3 ⟨rfl, hb⟩
          have hbk : Below w2.heap.size w2 w3 := bthen (Below.refl _ _) hb
          replace m0 := below_cell hbk m0
          replace m1 := below_cell hbk m1
          replace m2 := below_cell hbk m2
          replace hlt_m0 : w.heap.size < w3.heap.size := World.block_lt_of_cell? w3 _ m0
          replace HM := Lib.hid (HM.out.below hbk)
          replace HL := Lib.hid (HL.out.below hbk)
          replace hB := bthen hB hbk
          clear hbk hb
          go_wp2_with fail
          refine (k_FrontsG m _ a rows 1 n _ (by exact HM.out.below (Below.refl _ _)) HWS.out HN.out).mono ?_
          rintro e w4 ⟨pa, pc, rfl, hrd, hb⟩
          have hbk : Below w3.heap.size w3 w4 := bthen (Below.refl _ _) hb
          replace m0 := below_cell hbk m0
          replace m1 := below_cell hbk m1
          replace m2 := below_cell hbk m2
          replace hlt_m0 : w.heap.size < w4.heap.size := World.block_lt_of_cell? w4 _ m0
          replace HM := Lib.hid (HM.out.below hbk)
          replace HL := Lib.hid (HL.out.below hbk)
          replace hB := bthen hB hbk
          have P := Lib.hid hrd
          clear hrd
          clear hbk hb
          go_wp2_with fail
          refine (r_FrontsG m _ a rows 1 n _ (by exact HM.out.below (Below.refl _ _)) HWS.out HN.out).mono ?_
          rintro e w5 ⟨qa, qc, rfl, hrd, hb⟩
          have hbk : Below w4.heap.size w4 w5 := bthen (Below.refl _ _) hb
          replace m0 := below_cell hbk m0
          replace m1 := below_cell hbk m1
          replace m2 := below_cell hbk m2
          replace hlt_m0 : w.heap.size < w5.heap.size := World.block_lt_of_cell? w5 _ m0
          replace HM := Lib.hid (HM.out.below hbk)
          replace HL := Lib.hid (HL.out.below hbk)
          replace P := Lib.hid (P.out.below hbk)
          replace hB := bthen hB hbk
          have Q := Lib.hid hrd
          clear hrd
          clear hbk hb
          go_wp2_with fail
          refine wp_region_held_drew (S := (fun w' => w'.cell? ⟨w.heap.size, 0, none⟩ = some (.int .i64 m.n) ∧ w'.cell? ⟨w.heap.size, 1, none⟩ = some (.slice ka m.ks.length kc) ∧ w'.cell? ⟨w.heap.size, 2, none⟩ = some (.slice oa m.os.length oc))) (by kernel_rfl) ⟨cdw m0, cdw m1, cdw m2⟩ (fun hHeld => ?_)
          refine wpAnyH_take (i := 0) (v := ?vza0) rfl (by kernel_rfl) (by kernel_rfl) (by kernel_rfl) (fun _ _ _ h => h) (Or.inl ⟨by kernel_rfl, ?yza0⟩) hHeld ?rza0
          case yza0 => (intro wS hSw; (try dsimp only at hSw); go_split_ands; go_simp <;> with_reducible rfl)
          (try simp only [Act.put, List.setIfInBounds_toArray, List.set_cons_zero, List.set_cons_succ])
          refine wpAnyH_take (i := 1) (v := ?vza1) rfl (by kernel_rfl) (by kernel_rfl) (by kernel_rfl) (fun _ _ _ h => h) (Or.inl ⟨by kernel_rfl, ?yza1⟩) hHeld ?rza1
          case yza1 => (intro wS hSw; (try dsimp only at hSw); go_split_ands; go_simp <;> with_reducible rfl)
          (try simp only [Act.put, List.setIfInBounds_toArray, List.set_cons_zero, List.set_cons_succ])
          refine wpAnyH_ready (rs := [2]) (by kernel_rfl) (by simp) ?_
          refine AllReadyH.cons (o := _) rfl (fun K hK => ?_) AllReadyH.nil
          go_simp
          refine (r_SameFronts rows rows pa qa n n pc qc true _ HN.out HN.out (by simp) (by exact P.out.below (Below.refl _ _).drew) (by exact Q.out.below (Below.refl _ _).drew) (by omega) (by omega) (fun r hr => by have := HWL.out.2 r hr; omega) (fun r hr => by have := HWL.out.2 r hr; omega)).mono ?_
          rintro e x1 ⟨rfl, hb1⟩
          refine hK.out _ _ ⟨(below_cell hb1 (cdw m0)), (below_cell hb1 (cdw m1)), (below_cell hb1 (cdw m2))⟩ (fun hHeld => ?_)
          clear hK K
          (try simp only [Act.put, List.setIfInBounds_toArray, List.set_cons_zero, List.set_cons_succ])
          refine wpAnyH_take (i := 3) (v := ?vza3) rfl (by kernel_rfl) (by kernel_rfl) (by kernel_rfl) (fun _ _ _ h => h) (Or.inl ⟨by kernel_rfl, ?yza3⟩) hHeld ?rza3
          case yza3 => (intro wS hSw; (try dsimp only at hSw); go_split_ands; go_simp <;> with_reducible rfl)
          (try simp only [Act.put, List.setIfInBounds_toArray, List.set_cons_zero, List.set_cons_succ])
          refine wpAnyH_take (i := 4) (v := ?vza4) rfl (by kernel_rfl) (by kernel_rfl) (by kernel_rfl) (fun _ _ _ h => h) (Or.inl ⟨by kernel_rfl, ?yza4⟩) hHeld ?rza4
          case yza4 => (intro wS hSw; (try dsimp only at hSw); go_split_ands; go_simp <;> with_reducible rfl)
          (try simp only [Act.put, List.setIfInBounds_toArray, List.set_cons_zero, List.set_cons_succ])
          refine wpAnyH_take (i := 5) (v := ?vza5) rfl (by kernel_rfl) (by kernel_rfl) (by kernel_rfl) (fun _ _ _ h => h) (Or.inl ⟨by kernel_rfl, ?yza5⟩) hHeld ?rza5
          case yza5 => (intro wS hSw; (try dsimp only at hSw); go_split_ands; go_simp <;> with_reducible rfl)
          (try simp only [Act.put, List.setIfInBounds_toArray, List.set_cons_zero, List.set_cons_succ])
          refine wpAnyH_take (i := 6) (v := ?vza6) rfl (by kernel_rfl) (by kernel_rfl) (by kernel_rfl) (fun _ _ _ h => h) (Or.inl ⟨by kernel_rfl, ?yza6⟩) hHeld ?rza6
          case yza6 => (intro wS hSw; (try dsimp only at hSw); go_split_ands; go_simp <;> with_reducible rfl)
          (try simp only [Act.put, List.setIfInBounds_toArray, List.set_cons_zero, List.set_cons_succ])
          refine wpAnyH_take (i := 7) (v := ?vza7) rfl (by kernel_rfl) (by kernel_rfl) (by kernel_rfl) (fun _ _ _ h => h) (Or.inl ⟨by kernel_rfl, ?yza7⟩) hHeld ?rza7
          case yza7 => (intro wS hSw; (try dsimp only at hSw); go_split_ands; go_simp <;> with_reducible rfl)
          (try simp only [Act.put, List.setIfInBounds_toArray, List.set_cons_zero, List.set_cons_succ])
          refine wpAnyH_take (i := 8) (v := ?vza8) rfl (by kernel_rfl) (by kernel_rfl) (by kernel_rfl) (fun _ _ _ h => h) (Or.inl ⟨by kernel_rfl, ?yza8⟩) hHeld ?rza8
          case yza8 => (intro wS hSw; (try dsimp only at hSw); go_split_ands; go_simp <;> with_reducible rfl)
          (try simp only [Act.put, List.setIfInBounds_toArray, List.set_cons_zero, List.set_cons_succ])
          refine wpAnyH_take (i := 9) (v := ?vza9) rfl (by kernel_rfl) (by kernel_rfl) (by kernel_rfl) (fun _ _ _ h => h) (Or.inl ⟨by kernel_rfl, ?yza9⟩) hHeld ?rza9
          case yza9 => (intro wS hSw; (try dsimp only at hSw); go_split_ands; go_simp <;> with_reducible rfl)
          (try simp only [Act.put, List.setIfInBounds_toArray, List.set_cons_zero, List.set_cons_succ])
          refine wpAnyH_take (i := 10) (v := ?vza10) rfl (by kernel_rfl) (by kernel_rfl) (by kernel_rfl) (fun _ _ _ h => h) (Or.inl ⟨by kernel_rfl, ?yza10⟩) hHeld ?rza10
          case yza10 => (intro wS hSw; (try dsimp only at hSw); go_split_ands; go_simp <;> with_reducible rfl)
          (try simp only [Act.put, List.setIfInBounds_toArray, List.set_cons_zero, List.set_cons_succ])
          refine wpAnyH_take (i := 11) (v := ?vza11) rfl (by kernel_rfl) (by kernel_rfl) (by kernel_rfl) (fun _ _ _ h => h) (Or.inl ⟨by kernel_rfl, ?yza11⟩) hHeld ?rza11
          case yza11 => (intro wS hSw; (try dsimp only at hSw); go_split_ands; go_simp <;> with_reducible rfl)
          (try simp only [Act.put, List.setIfInBounds_toArray, List.set_cons_zero, List.set_cons_succ])
          refine wpAnyH_take (i := 13) (v := ?vza13) rfl (by kernel_rfl) (by kernel_rfl) (by kernel_rfl) (fun _ _ _ h => h) (Or.inl ⟨by kernel_rfl, ?yza13⟩) hHeld ?rza13
          case yza13 => (intro wS hSw; (try dsimp only at hSw); go_split_ands; go_simp <;> with_reducible rfl)
          (try simp only [Act.put, List.setIfInBounds_toArray, List.set_cons_zero, List.set_cons_succ])
          refine wpAnyH_take (i := 14) (v := ?vza14) rfl (by kernel_rfl) (by kernel_rfl) (by kernel_rfl) (fun _ _ _ h => h) (Or.inl ⟨by kernel_rfl, ?yza14⟩) hHeld ?rza14
          case yza14 => (intro wS hSw; (try dsimp only at hSw); go_split_ands; go_simp <;> with_reducible rfl)
          (try simp only [Act.put, List.setIfInBounds_toArray, List.set_cons_zero, List.set_cons_succ])
          refine wpAnyH_take (i := 15) (v := ?vza15) rfl (by kernel_rfl) (by kernel_rfl) (by kernel_rfl) (fun _ _ _ h => h) (Or.inl ⟨by kernel_rfl, ?yza15⟩) hHeld ?rza15
          case yza15 => (intro wS hSw; (try dsimp only at hSw); go_split_ands; go_simp <;> with_reducible rfl)
          (try simp only [Act.put, List.setIfInBounds_toArray, List.set_cons_zero, List.set_cons_succ])
          refine wpAnyH_ready (rs := [12]) (by kernel_rfl) (by simp) ?_
          refine AllReadyH.cons (o := _) rfl (fun K hK => ?_) AllReadyH.nil
          go_simp
          refine (k_CheckFronts m _ a ll la ln lc _ (by exact HM.out.below (bthen (Below.refl _ _).drew hb1)) HLN.out (by exact HL.out.below (bthen (Below.refl _ _).drew hb1)) (by omega) HK2.out).mono ?_
          rintro e x2 ⟨rfl, hb2⟩
          rw [← hC.out]
          refine hK.out _ _ ⟨(below_cell hb2 (below_cell hb1 (cdw m0))), (below_cell hb2 (below_cell hb1 (cdw m1))), (below_cell hb2 (below_cell hb1 (cdw m2)))⟩ (fun hHeld => ?_)
          clear hK K
          (try simp only [Act.put, List.setIfInBounds_toArray, List.set_cons_zero, List.set_cons_succ])
          refine wpAnyH_ready (rs := [16]) (by kernel_rfl) (by simp) ?_
          refine AllReadyH.cons (o := _) rfl (fun K hK => ?_) AllReadyH.nil
          go_simp
          refine (r_CheckFronts m _ a ll la ln lc _ (by exact HM.out.below (bthen (bthen (Below.refl _ _).drew hb1) hb2)) HLN.out (by exact HL.out.below (bthen (bthen (Below.refl _ _).drew hb1) hb2)) (by omega) HK2.out).mono ?_
          rintro e x3 ⟨rfl, hb3⟩
          rw [← hC.out]
          refine hK.out _ _ ⟨(below_cell hb3 (below_cell hb2 (below_cell hb1 (cdw m0)))), (below_cell hb3 (below_cell hb2 (below_cell hb1 (cdw m1)))), (below_cell hb3 (below_cell hb2 (below_cell hb1 (cdw m2))))⟩ (fun hHeld => ?_)
          clear hK K
          (try simp only [Act.put, List.setIfInBounds_toArray, List.set_cons_zero, List.set_cons_succ])
          refine wpAnyH_take (i := 17) (v := ?vza17) rfl (by kernel_rfl) (by kernel_rfl) (by kernel_rfl) (fun _ _ _ h => h) (Or.inl ⟨by kernel_rfl, ?yza17⟩) hHeld ?rza17
          case yza17 => (intro wS hSw; (try dsimp only at hSw); go_split_ands; go_simp <;> with_reducible rfl)
          (try simp only [Act.put, List.setIfInBounds_toArray, List.set_cons_zero, List.set_cons_succ])
          refine wpAnyH_take (i := 18) (v := ?vza18) rfl (by kernel_rfl) (by kernel_rfl) (by kernel_rfl) (fun _ _ _ h => h) (Or.inl ⟨by kernel_rfl, ?yza18⟩) hHeld ?rza18
          case yza18 => (intro wS hSw; (try dsimp only at hSw); go_split_ands; go_simp <;> with_reducible rfl)
          (try simp only [Act.put, List.setIfInBounds_toArray, List.set_cons_zero, List.set_cons_succ])
          refine wpAnyH_take (i := 19) (v := ?vza19) rfl (by kernel_rfl) (by kernel_rfl) (by kernel_rfl) (fun _ _ _ h => h) (Or.inl ⟨by kernel_rfl, ?yza19⟩) hHeld ?rza19
          case yza19 => (intro wS hSw; (try dsimp only at hSw); go_split_ands; go_simp <;> with_reducible rfl)
          (try simp only [Act.put, List.setIfInBounds_toArray, List.set_cons_zero, List.set_cons_succ])
          refine wpAnyH_take (i := 20) (v := ?vza20) rfl (by kernel_rfl) (by kernel_rfl) (by kernel_rfl) (fun _ _ _ h => h) (Or.inl ⟨by kernel_rfl, ?yza20⟩) hHeld ?rza20
          case yza20 => (intro wS hSw; (try dsimp only at hSw); go_split_ands; go_simp <;> with_reducible rfl)
          (try simp only [Act.put, List.setIfInBounds_toArray, List.set_cons_zero, List.set_cons_succ])
          refine wpAnyH_take (i := 21) (v := ?vza21) rfl (by kernel_rfl) (by kernel_rfl) (by kernel_rfl) (fun _ _ _ h => h) (Or.inl ⟨by kernel_rfl, ?yza21⟩) hHeld ?rza21
          case yza21 => (intro wS hSw; (try dsimp only at hSw); go_split_ands; go_simp <;> with_reducible rfl)
          (try simp only [Act.put, List.setIfInBounds_toArray, List.set_cons_zero, List.set_cons_succ])
          refine wpAnyH_take (i := 22) (v := ?vza22) rfl (by kernel_rfl) (by kernel_rfl) (by kernel_rfl) (fun _ _ _ h => h) (Or.inl ⟨by kernel_rfl, ?yza22⟩) hHeld ?rza22
          case yza22 => (intro wS hSw; (try dsimp only at hSw); go_split_ands; go_simp <;> with_reducible rfl)
          (try simp only [Act.put, List.setIfInBounds_toArray, List.set_cons_zero, List.set_cons_succ])
          refine wpAnyH_take (i := 23) (v := undef) rfl (by kernel_rfl) (by kernel_rfl) (by kernel_rfl) (fun _ _ _ h => h) (Or.inr ⟨by kernel_rfl, rfl⟩) hHeld ?_
          (try simp only [Act.put, List.setIfInBounds_toArray, List.set_cons_zero, List.set_cons_succ])
          refine wpAnyH_take (i := 24) (v := undef) rfl (by kernel_rfl) (by kernel_rfl) (by kernel_rfl) (fun _ _ _ h => h) (Or.inr ⟨by kernel_rfl, rfl⟩) hHeld ?_
          (try simp only [Act.put, List.setIfInBounds_toArray, List.set_cons_zero, List.set_cons_succ])
          refine wpAnyH_take (i := 25) (v := undef) rfl (by kernel_rfl) (by kernel_rfl) (by kernel_rfl) (fun _ _ _ h => h) (Or.inr ⟨by kernel_rfl, rfl⟩) hHeld ?_
          (try simp only [Act.put, List.setIfInBounds_toArray, List.set_cons_zero, List.set_cons_succ])
          refine wpAnyH_take (i := 26) (v := undef) rfl (by kernel_rfl) (by kernel_rfl) (by kernel_rfl) (fun _ _ _ h => h) (Or.inr ⟨by kernel_rfl, rfl⟩) hHeld ?_
          (try simp only [Act.put, List.setIfInBounds_toArray, List.set_cons_zero, List.set_cons_succ])
          refine wpAnyH_take (i := 27) (v := undef) rfl (by kernel_rfl) (by kernel_rfl) (by kernel_rfl) (fun _ _ _ h => h) (Or.inr ⟨by kernel_rfl, rfl⟩) hHeld ?_
          (try simp only [Act.put, List.setIfInBounds_toArray, List.set_cons_zero, List.set_cons_succ])
          refine wpAnyH_take (i := 28) (v := ?vza28) rfl (by kernel_rfl) (by kernel_rfl) (by kernel_rfl) (fun _ _ _ h => h) (Or.inl ⟨by kernel_rfl, ?yza28⟩) hHeld ?rza28
          case yza28 => (intro wS hSw; (try dsimp only at hSw); go_split_ands; go_simp <;> with_reducible rfl)
          (try simp only [Act.put, List.setIfInBounds_toArray, List.set_cons_zero, List.set_cons_succ])
          refine wpAnyH_take (i := 29) (v := ?vza29) rfl (by kernel_rfl) (by kernel_rfl) (by kernel_rfl) (fun _ _ _ h => h) (Or.inl ⟨by kernel_rfl, ?yza29⟩) hHeld ?rza29
          case yza29 => (intro wS hSw; (try dsimp only at hSw); go_split_ands; go_simp <;> with_reducible rfl)
          (try simp only [Act.put, List.setIfInBounds_toArray, List.set_cons_zero, List.set_cons_succ])
          refine wpAnyH_ready (rs := [30]) (by kernel_rfl) (by simp) ?_
          refine AllReadyH.cons (o := _) rfl (fun K hK => ?_) AllReadyH.nil
          go_simp
          refine hK.out _ _ hHeld (fun hHeld => ?_)
          clear hK K
          (try simp only [Act.put, List.setIfInBounds_toArray, List.set_cons_zero, List.set_cons_succ])
          refine wpAnyH_done (by kernel_rfl) ?_ _

          have hBz := bthen hB (bthen (bthen (bthen (Below.refl _ _).drew hb1) hb2) hb3)
          clear hb1 hb2 hb3 m0 m1 m2 hB
          go_wp2
          go_ret
          exact ⟨ret_bool (by simp), hBz⟩
        · have he : askE m [] [a] [] ≠ 0 := by rw [he0]; decide
          obtain ⟨rows, hrows⟩ : ∃ rows, frontsLF m a = (rows, 80) := ⟨[], by unfold frontsLF; rw [if_pos he, he0]⟩
          rw [hrows] at hwl
          have HWL := Lib.hid hwl
          obtain ⟨n, hn⟩ : ∃ n, rows.length = n := ⟨_, rfl⟩
          have hn8 : n ≤ 8 := by rw [← hn]; exact hwl.1
          have HWS := Lib.hid hrows
          have HN := Lib.hid hn
          clear hwl hrows hn he he0
          go_enter Try.func11, Try.ntmps11
          go_wp2_with fail
          refine (l_sane _).mono ?_
          rintro e w1 ⟨rfl, hb⟩
          have hbk : Below w.heap.size w w1 := bthen (bal (Below.refl _ _) (.cells #[.int .i64 m.n, .slice ka m.ks.length kc, .slice oa m.os.length oc] 24)) hb
          have m0 := below_cell hb (show (w.alloc (.cells #[.int .i64 m.n, .slice ka m.ks.length kc, .slice oa m.os.length oc] 24)).cell? ⟨w.heap.size, 0, none⟩ = some (.int .i64 m.n) from by simp)
          have m1 := below_cell hb (show (w.alloc (.cells #[.int .i64 m.n, .slice ka m.ks.length kc, .slice oa m.os.length oc] 24)).cell? ⟨w.heap.size, 1, none⟩ = some (.slice ka m.ks.length kc) from by simp)
          have m2 := below_cell hb (show (w.alloc (.cells #[.int .i64 m.n, .slice ka m.ks.length kc, .slice oa m.os.length oc] 24)).cell? ⟨w.heap.size, 2, none⟩ = some (.slice oa m.os.length oc) from by simp)
          have hlt_m0 : w.heap.size < w1.heap.size := World.block_lt_of_cell? w1 _ m0
          replace HM := Lib.hid (HM.out.below hbk)
          replace HL := Lib.hid (HL.out.below hbk)
          have hB := hbk
          clear hbk hb
          go_wp2_with fail
          refine (l_few m _ _ (by exact HM.out.below (Below.refl _ _))).mono ?_
          rintro e w2 ⟨rfl, hb⟩
          rw [HFEW.out]
          have hbk : Below w1.heap.size w1 w2 := bthen (Below.refl _ _) hb
          replace m0 := below_cell hbk m0
          replace m1 := below_cell hbk m1
          replace m2 := below_cell hbk m2
          replace hlt_m0 : w.heap.size < w2.heap.size := World.block_lt_of_cell? w2 _ m0
          replace HM := Lib.hid (HM.out.below hbk)
          replace HL := Lib.hid (HL.out.below hbk)
          replace hB := bthen hB hbk
          clear hbk hb
          go_wp2_with fail
          refine (c_Long100 ll la ln lc false _ HLN.out HLG.out (by exact HL.out.below (Below.refl _ _)) (by omega) HKK.out).mono ?_
          rintro e w3 ⟨rfl, hb⟩
          have hbk : Below w2.heap.size w2 w3 := bthen (Below.refl _ _) hb
          replace m0 := below_cell hbk m0
          replace m1 := below_cell hbk m1
          replace m2 := below_cell hbk m2
          replace hlt_m0 : w.heap.size < w3.heap.size := World.block_lt_of_cell? w3 _ m0
          replace HM := Lib.hid (HM.out.below hbk)
          replace HL := Lib.hid (HL.out.below hbk)
          replace hB := bthen hB hbk
          clear hbk hb
          go_wp2_with fail
          refine (k_FrontsG m _ a rows 80 n _ (by exact HM.out.below (Below.refl _ _)) HWS.out HN.out).mono ?_
          rintro e w4 ⟨pa, pc, rfl, hrd, hb⟩
          have hbk : Below w3.heap.size w3 w4 := bthen (Below.refl _ _) hb
          replace m0 := below_cell hbk m0
          replace m1 := below_cell hbk m1
          replace m2 := below_cell hbk m2
          replace hlt_m0 : w.heap.size < w4.heap.size := World.block_lt_of_cell? w4 _ m0
          replace HM := Lib.hid (HM.out.below hbk)
          replace HL := Lib.hid (HL.out.below hbk)
          replace hB := bthen hB hbk
          have P := Lib.hid hrd
          clear hrd
          clear hbk hb
          go_wp2_with fail
          refine (r_FrontsG m _ a rows 80 n _ (by exact HM.out.below (Below.refl _ _)) HWS.out HN.out).mono ?_
          rintro e w5 ⟨qa, qc, rfl, hrd, hb⟩
          have hbk : Below w4.heap.size w4 w5 := bthen (Below.refl _ _) hb
          replace m0 := below_cell hbk m0
          replace m1 := below_cell hbk m1
          replace m2 := below_cell hbk m2
          replace hlt_m0 : w.heap.size < w5.heap.size := World.block_lt_of_cell? w5 _ m0
          replace HM := Lib.hid (HM.out.below hbk)
          replace HL := Lib.hid (HL.out.below hbk)
          replace P := Lib.hid (P.out.below hbk)
          replace hB := bthen hB hbk
          have Q := Lib.hid hrd
          clear hrd
          clear hbk hb
          go_wp2_with fail
          refine wp_region_held_drew (S := (fun w' => w'.cell? ⟨w.heap.size, 0, none⟩ = some (.int .i64 m.n) ∧ w'.cell? ⟨w.heap.size, 1, none⟩ = some (.slice ka m.ks.length kc) ∧ w'.cell? ⟨w.heap.size, 2, none⟩ = some (.slice oa m.os.length oc))) (by kernel_rfl) ⟨cdw m0, cdw m1, cdw m2⟩ (fun hHeld => ?_)
          refine wpAnyH_take (i := 0) (v := ?vzaz0) rfl (by kernel_rfl) (by kernel_rfl) (by kernel_rfl) (fun _ _ _ h => h) (Or.inl ⟨by kernel_rfl, ?yzaz0⟩) hHeld ?rzaz0
          case yzaz0 => (intro wS hSw; (try dsimp only at hSw); go_split_ands; go_simp <;> with_reducible rfl)
          (try simp only [Act.put, List.setIfInBounds_toArray, List.set_cons_zero, List.set_cons_succ])
          refine wpAnyH_take (i := 1) (v := ?vzaz1) rfl (by kernel_rfl) (by kernel_rfl) (by kernel_rfl) (fun _ _ _ h => h) (Or.inl ⟨by kernel_rfl, ?yzaz1⟩) hHeld ?rzaz1
          case yzaz1 => (intro wS hSw; (try dsimp only at hSw); go_split_ands; go_simp <;> with_reducible rfl)
          (try simp only [Act.put, List.setIfInBounds_toArray, List.set_cons_zero, List.set_cons_succ])
          refine wpAnyH_ready (rs := [2]) (by kernel_rfl) (by simp) ?_
          refine AllReadyH.cons (o := _) rfl (fun K hK => ?_) AllReadyH.nil
          go_simp
          refine (r_SameFronts rows rows pa qa n n pc qc true _ HN.out HN.out (by simp) (by exact P.out.below (Below.refl _ _).drew) (by exact Q.out.below (Below.refl _ _).drew) (by omega) (by omega) (fun r hr => by have := HWL.out.2 r hr; omega) (fun r hr => by have := HWL.out.2 r hr; omega)).mono ?_
          rintro e x1 ⟨rfl, hb1⟩
          refine hK.out _ _ ⟨(below_cell hb1 (cdw m0)), (below_cell hb1 (cdw m1)), (below_cell hb1 (cdw m2))⟩ (fun hHeld => ?_)
          clear hK K
          (try simp only [Act.put, List.setIfInBounds_toArray, List.set_cons_zero, List.set_cons_succ])
          refine wpAnyH_take (i := 3) (v := ?vzaz3) rfl (by kernel_rfl) (by kernel_rfl) (by kernel_rfl) (fun _ _ _ h => h) (Or.inl ⟨by kernel_rfl, ?yzaz3⟩) hHeld ?rzaz3
          case yzaz3 => (intro wS hSw; (try dsimp only at hSw); go_split_ands; go_simp <;> with_reducible rfl)
          (try simp only [Act.put, List.setIfInBounds_toArray, List.set_cons_zero, List.set_cons_succ])
          refine wpAnyH_take (i := 4) (v := ?vzaz4) rfl (by kernel_rfl) (by kernel_rfl) (by kernel_rfl) (fun _ _ _ h => h) (Or.inl ⟨by kernel_rfl, ?yzaz4⟩) hHeld ?rzaz4
          case yzaz4 => (intro wS hSw; (try dsimp only at hSw); go_split_ands; go_simp <;> with_reducible rfl)
          (try simp only [Act.put, List.setIfInBounds_toArray, List.set_cons_zero, List.set_cons_succ])
          refine wpAnyH_take (i := 5) (v := ?vzaz5) rfl (by kernel_rfl) (by kernel_rfl) (by kernel_rfl) (fun _ _ _ h => h) (Or.inl ⟨by kernel_rfl, ?yzaz5⟩) hHeld ?rzaz5
          case yzaz5 => (intro wS hSw; (try dsimp only at hSw); go_split_ands; go_simp <;> with_reducible rfl)
          (try simp only [Act.put, List.setIfInBounds_toArray, List.set_cons_zero, List.set_cons_succ])
          refine wpAnyH_take (i := 6) (v := ?vzaz6) rfl (by kernel_rfl) (by kernel_rfl) (by kernel_rfl) (fun _ _ _ h => h) (Or.inl ⟨by kernel_rfl, ?yzaz6⟩) hHeld ?rzaz6
          case yzaz6 => (intro wS hSw; (try dsimp only at hSw); go_split_ands; go_simp <;> with_reducible rfl)
          (try simp only [Act.put, List.setIfInBounds_toArray, List.set_cons_zero, List.set_cons_succ])
          refine wpAnyH_take (i := 7) (v := ?vzaz7) rfl (by kernel_rfl) (by kernel_rfl) (by kernel_rfl) (fun _ _ _ h => h) (Or.inl ⟨by kernel_rfl, ?yzaz7⟩) hHeld ?rzaz7
          case yzaz7 => (intro wS hSw; (try dsimp only at hSw); go_split_ands; go_simp <;> with_reducible rfl)
          (try simp only [Act.put, List.setIfInBounds_toArray, List.set_cons_zero, List.set_cons_succ])
          refine wpAnyH_take (i := 8) (v := ?vzaz8) rfl (by kernel_rfl) (by kernel_rfl) (by kernel_rfl) (fun _ _ _ h => h) (Or.inl ⟨by kernel_rfl, ?yzaz8⟩) hHeld ?rzaz8
          case yzaz8 => (intro wS hSw; (try dsimp only at hSw); go_split_ands; go_simp <;> with_reducible rfl)
          (try simp only [Act.put, List.setIfInBounds_toArray, List.set_cons_zero, List.set_cons_succ])
          refine wpAnyH_take (i := 9) (v := ?vzaz9) rfl (by kernel_rfl) (by kernel_rfl) (by kernel_rfl) (fun _ _ _ h => h) (Or.inl ⟨by kernel_rfl, ?yzaz9⟩) hHeld ?rzaz9
          case yzaz9 => (intro wS hSw; (try dsimp only at hSw); go_split_ands; go_simp <;> with_reducible rfl)
          (try simp only [Act.put, List.setIfInBounds_toArray, List.set_cons_zero, List.set_cons_succ])
          refine wpAnyH_take (i := 10) (v := ?vzaz10) rfl (by kernel_rfl) (by kernel_rfl) (by kernel_rfl) (fun _ _ _ h => h) (Or.inl ⟨by kernel_rfl, ?yzaz10⟩) hHeld ?rzaz10
          case yzaz10 => (intro wS hSw; (try dsimp only at hSw); go_split_ands; go_simp <;> with_reducible rfl)
          (try simp only [Act.put, List.setIfInBounds_toArray, List.set_cons_zero, List.set_cons_succ])
          refine wpAnyH_take (i := 11) (v := ?vzaz11) rfl (by kernel_rfl) (by kernel_rfl) (by kernel_rfl) (fun _ _ _ h => h) (Or.inl ⟨by kernel_rfl, ?yzaz11⟩) hHeld ?rzaz11
          case yzaz11 => (intro wS hSw; (try dsimp only at hSw); go_split_ands; go_simp <;> with_reducible rfl)
          (try simp only [Act.put, List.setIfInBounds_toArray, List.set_cons_zero, List.set_cons_succ])
          refine wpAnyH_take (i := 13) (v := ?vzaz13) rfl (by kernel_rfl) (by kernel_rfl) (by kernel_rfl) (fun _ _ _ h => h) (Or.inl ⟨by kernel_rfl, ?yzaz13⟩) hHeld ?rzaz13
          case yzaz13 => (intro wS hSw; (try dsimp only at hSw); go_split_ands; go_simp <;> with_reducible rfl)
          (try simp only [Act.put, List.setIfInBounds_toArray, List.set_cons_zero, List.set_cons_succ])
          refine wpAnyH_take (i := 14) (v := ?vzaz14) rfl (by kernel_rfl) (by kernel_rfl) (by kernel_rfl) (fun _ _ _ h => h) (Or.inl ⟨by kernel_rfl, ?yzaz14⟩) hHeld ?rzaz14
          case yzaz14 => (intro wS hSw; (try dsimp only at hSw); go_split_ands; go_simp <;> with_reducible rfl)
          (try simp only [Act.put, List.setIfInBounds_toArray, List.set_cons_zero, List.set_cons_succ])
          refine wpAnyH_take (i := 15) (v := ?vzaz15) rfl (by kernel_rfl) (by kernel_rfl) (by kernel_rfl) (fun _ _ _ h => h) (Or.inl ⟨by kernel_rfl, ?yzaz15⟩) hHeld ?rzaz15
          case yzaz15 => (intro wS hSw; (try dsimp only at hSw); go_split_ands; go_simp <;> with_reducible rfl)
          (try simp only [Act.put, List.setIfInBounds_toArray, List.set_cons_zero, List.set_cons_succ])
          refine wpAnyH_ready (rs := [12]) (by kernel_rfl) (by simp) ?_
          refine AllReadyH.cons (o := _) rfl (fun K hK => ?_) AllReadyH.nil
          go_simp
          refine (k_CheckFronts m _ a ll la ln lc _ (by exact HM.out.below (bthen (Below.refl _ _).drew hb1)) HLN.out (by exact HL.out.below (bthen (Below.refl _ _).drew hb1)) (by omega) HK2.out).mono ?_
          rintro e x2 ⟨rfl, hb2⟩
          rw [← hC.out]
          refine hK.out _ _ ⟨(below_cell hb2 (below_cell hb1 (cdw m0))), (below_cell hb2 (below_cell hb1 (cdw m1))), (below_cell hb2 (below_cell hb1 (cdw m2)))⟩ (fun hHeld => ?_)
          clear hK K
          (try simp only [Act.put, List.setIfInBounds_toArray, List.set_cons_zero, List.set_cons_succ])
          refine wpAnyH_ready (rs := [16]) (by kernel_rfl) (by simp) ?_
          refine AllReadyH.cons (o := _) rfl (fun K hK => ?_) AllReadyH.nil
          go_simp
          refine (r_CheckFronts m _ a ll la ln lc _ (by exact HM.out.below (bthen (bthen (Below.refl _ _).drew hb1) hb2)) HLN.out (by exact HL.out.below (bthen (bthen (Below.refl _ _).drew hb1) hb2)) (by omega) HK2.out).mono ?_
          rintro e x3 ⟨rfl, hb3⟩
          rw [← hC.out]
          refine hK.out _ _ ⟨(below_cell hb3 (below_cell hb2 (below_cell hb1 (cdw m0)))), (below_cell hb3 (below_cell hb2 (below_cell hb1 (cdw m1)))), (below_cell hb3 (below_cell hb2 (below_cell hb1 (cdw m2))))⟩ (fun hHeld => ?_)
          clear hK K
          (try simp only [Act.put, List.setIfInBounds_toArray, List.set_cons_zero, List.set_cons_succ])
          refine wpAnyH_take (i := 17) (v := ?vzaz17) rfl (by kernel_rfl) (by kernel_rfl) (by kernel_rfl) (fun _ _ _ h => h) (Or.inl ⟨by kernel_rfl, ?yzaz17⟩) hHeld ?rzaz17
          case yzaz17 => (intro wS hSw; (try dsimp only at hSw); go_split_ands; go_simp <;> with_reducible rfl)
          (try simp only [Act.put, List.setIfInBounds_toArray, List.set_cons_zero, List.set_cons_succ])
          refine wpAnyH_take (i := 18) (v := ?vzaz18) rfl (by kernel_rfl) (by kernel_rfl) (by kernel_rfl) (fun _ _ _ h => h) (Or.inl ⟨by kernel_rfl, ?yzaz18⟩) hHeld ?rzaz18
          case yzaz18 => (intro wS hSw; (try dsimp only at hSw); go_split_ands; go_simp <;> with_reducible rfl)
          (try simp only [Act.put, List.setIfInBounds_toArray, List.set_cons_zero, List.set_cons_succ])
          refine wpAnyH_take (i := 19) (v := ?vzaz19) rfl (by kernel_rfl) (by kernel_rfl) (by kernel_rfl) (fun _ _ _ h => h) (Or.inl ⟨by kernel_rfl, ?yzaz19⟩) hHeld ?rzaz19
          case yzaz19 => (intro wS hSw; (try dsimp only at hSw); go_split_ands; go_simp <;> with_reducible rfl)
          (try simp only [Act.put, List.setIfInBounds_toArray, List.set_cons_zero, List.set_cons_succ])
          refine wpAnyH_take (i := 20) (v := ?vzaz20) rfl (by kernel_rfl) (by kernel_rfl) (by kernel_rfl) (fun _ _ _ h => h) (Or.inl ⟨by kernel_rfl, ?yzaz20⟩) hHeld ?rzaz20
          case yzaz20 => (intro wS hSw; (try dsimp only at hSw); go_split_ands; go_simp <;> with_reducible rfl)
          (try simp only [Act.put, List.setIfInBounds_toArray, List.set_cons_zero, List.set_cons_succ])
          refine wpAnyH_take (i := 21) (v := ?vzaz21) rfl (by kernel_rfl) (by kernel_rfl) (by kernel_rfl) (fun _ _ _ h => h) (Or.inl ⟨by kernel_rfl, ?yzaz21⟩) hHeld ?rzaz21
          case yzaz21 => (intro wS hSw; (try dsimp only at hSw); go_split_ands; go_simp <;> with_reducible rfl)
          (try simp only [Act.put, List.setIfInBounds_toArray, List.set_cons_zero, List.set_cons_succ])
          refine wpAnyH_take (i := 22) (v := ?vzaz22) rfl (by kernel_rfl) (by kernel_rfl) (by kernel_rfl) (fun _ _ _ h => h) (Or.inl ⟨by kernel_rfl, ?yzaz22⟩) hHeld ?rzaz22
          case yzaz22 => (intro wS hSw; (try dsimp only at hSw); go_split_ands; go_simp <;> with_reducible rfl)
          (try simp only [Act.put, List.setIfInBounds_toArray, List.set_cons_zero, List.set_cons_succ])
          refine wpAnyH_take (i := 23) (v := undef) rfl (by kernel_rfl) (by kernel_rfl) (by kernel_rfl) (fun _ _ _ h => h) (Or.inr ⟨by kernel_rfl, rfl⟩) hHeld ?_
          (try simp only [Act.put, List.setIfInBounds_toArray, List.set_cons_zero, List.set_cons_succ])
          refine wpAnyH_take (i := 24) (v := undef) rfl (by kernel_rfl) (by kernel_rfl) (by kernel_rfl) (fun _ _ _ h => h) (Or.inr ⟨by kernel_rfl, rfl⟩) hHeld ?_
          (try simp only [Act.put, List.setIfInBounds_toArray, List.set_cons_zero, List.set_cons_succ])
          refine wpAnyH_take (i := 25) (v := undef) rfl (by kernel_rfl) (by kernel_rfl) (by kernel_rfl) (fun _ _ _ h => h) (Or.inr ⟨by kernel_rfl, rfl⟩) hHeld ?_
          (try simp only [Act.put, List.setIfInBounds_toArray, List.set_cons_zero, List.set_cons_succ])
          refine wpAnyH_take (i := 26) (v := undef) rfl (by kernel_rfl) (by kernel_rfl) (by kernel_rfl) (fun _ _ _ h => h) (Or.inr ⟨by kernel_rfl, rfl⟩) hHeld ?_
          (try simp only [Act.put, List.setIfInBounds_toArray, List.set_cons_zero, List.set_cons_succ])
          refine wpAnyH_take (i := 27) (v := undef) rfl (by kernel_rfl) (by kernel_rfl) (by kernel_rfl) (fun _ _ _ h => h) (Or.inr ⟨by kernel_rfl, rfl⟩) hHeld ?_
          (try simp only [Act.put, List.setIfInBounds_toArray, List.set_cons_zero, List.set_cons_succ])
          refine wpAnyH_take (i := 28) (v := ?vzaz28) rfl (by kernel_rfl) (by kernel_rfl) (by kernel_rfl) (fun _ _ _ h => h) (Or.inl ⟨by kernel_rfl, ?yzaz28⟩) hHeld ?rzaz28
          case yzaz28 => (intro wS hSw; (try dsimp only at hSw); go_split_ands; go_simp <;> with_reducible rfl)
          (try simp only [Act.put, List.setIfInBounds_toArray, List.set_cons_zero, List.set_cons_succ])
          refine wpAnyH_take (i := 29) (v := ?vzaz29) rfl (by kernel_rfl) (by kernel_rfl) (by kernel_rfl) (fun _ _ _ h => h) (Or.inl ⟨by kernel_rfl, ?yzaz29⟩) hHeld ?rzaz29
          case yzaz29 => (intro wS hSw; (try dsimp only at hSw); go_split_ands; go_simp <;> with_reducible rfl)
          (try simp only [Act.put, List.setIfInBounds_toArray, List.set_cons_zero, List.set_cons_succ])
          refine wpAnyH_ready (rs := [30]) (by kernel_rfl) (by simp) ?_
          refine AllReadyH.cons (o := _) rfl (fun K hK => ?_) AllReadyH.nil
          go_simp
          refine hK.out _ _ hHeld (fun hHeld => ?_)
          clear hK K
          (try simp only [Act.put, List.setIfInBounds_toArray, List.set_cons_zero, List.set_cons_succ])
          refine wpAnyH_done (by kernel_rfl) ?_ _

          have hBz := bthen hB (bthen (bthen (bthen (Below.refl _ _).drew hb1) hb2) hb3)
          clear hb1 hb2 hb3 m0 m1 m2 hB
          go_wp2
          go_ret
          exact ⟨ret_bool (by simp), hBz⟩
        · have he : ¬ askE m [] [a] [] ≠ 0 := by rw [he0]; simp
          obtain ⟨rows, hrows⟩ : ∃ rows, frontsLF m a = (rows, 0) := ⟨(frontsLF m a).1, by unfold frontsLF; rw [if_neg he]⟩
          have HC0 := Lib.hid (show checkF m a rows = 0 from by unfold checkF; rw [if_neg he, hrows]; exact if_pos rfl)
          rw [hrows] at hwl
          have HWL := Lib.hid hwl
          obtain ⟨n, hn⟩ : ∃ n, rows.length = n := ⟨_, rfl⟩
          have hn8 : n ≤ 8 := by rw [← hn]; exact hwl.1
          have HWS := Lib.hid hrows
          have HN := Lib.hid hn
          clear hwl hrows hn he he0
          go_enter Try.func11, Try.ntmps11
          go_wp2_with fail
          refine (l_sane _).mono ?_
          rintro e w1 ⟨rfl, hb⟩
          have hbk : Below w.heap.size w w1 := bthen (bal (Below.refl _ _) (.cells #[.int .i64 m.n, .slice ka m.ks.length kc, .slice oa m.os.length oc] 24)) hb
          have m0 := below_cell hb (show (w.alloc (.cells #[.int .i64 m.n, .slice ka m.ks.length kc, .slice oa m.os.length oc] 24)).cell? ⟨w.heap.size, 0, none⟩ = some (.int .i64 m.n) from by simp)
          have m1 := below_cell hb (show (w.alloc (.cells #[.int .i64 m.n, .slice ka m.ks.length kc, .slice oa m.os.length oc] 24)).cell? ⟨w.heap.size, 1, none⟩ = some (.slice ka m.ks.length kc) from by simp)
          have m2 := below_cell hb (show (w.alloc (.cells #[.int .i64 m.n, .slice ka m.ks.length kc, .slice oa m.os.length oc] 24)).cell? ⟨w.heap.size, 2, none⟩ = some (.slice oa m.os.length oc) from by simp)
          have hlt_m0 : w.heap.size < w1.heap.size := World.block_lt_of_cell? w1 _ m0
          replace HM := Lib.hid (HM.out.below hbk)
          replace HL := Lib.hid (HL.out.below hbk)
          have hB := hbk
          clear hbk hb
          go_wp2_with fail
          refine (l_few m _ _ (by exact HM.out.below (Below.refl _ _))).mono ?_
          rintro e w2 ⟨rfl, hb⟩
          rw [HFEW.out]
          have hbk : Below w1.heap.size w1 w2 := bthen (Below.refl _ _) hb
          replace m0 := below_cell hbk m0
          replace m1 := below_cell hbk m1
          replace m2 := below_cell hbk m2
          replace hlt_m0 : w.heap.size < w2.heap.size := World.block_lt_of_cell? w2 _ m0
          replace HM := Lib.hid (HM.out.below hbk)
          replace HL := Lib.hid (HL.out.below hbk)
          replace hB := bthen hB hbk
          clear hbk hb
          go_wp2_with fail
          refine (c_Long100 ll la ln lc false _ HLN.out HLG.out (by exact HL.out.below (Below.refl _ _)) (by omega) HKK.out).mono ?_
          rintro e w3 ⟨rfl, hb⟩
          have hbk : Below w2.heap.size w2 w3 := bthen (Below.refl _ _) hb
          replace m0 := below_cell hbk m0
          replace m1 := below_cell hbk m1
          replace m2 := below_cell hbk m2
          replace hlt_m0 : w.heap.size < w3.heap.size := World.block_lt_of_cell? w3 _ m0
          replace HM := Lib.hid (HM.out.below hbk)
          replace HL := Lib.hid (HL.out.below hbk)
          replace hB := bthen hB hbk
          clear hbk hb
          go_wp2_with fail
          refine (k_FrontsG m _ a rows 0 n _ (by exact HM.out.below (Below.refl _ _)) HWS.out HN.out).mono ?_
          rintro e w4 ⟨pa, pc, rfl, hrd, hb⟩
          have hbk : Below w3.heap.size w3 w4 := bthen (Below.refl _ _) hb
          replace m0 := below_cell hbk m0
          replace m1 := below_cell hbk m1
          replace m2 := below_cell hbk m2
          replace hlt_m0 : w.heap.size < w4.heap.size := World.block_lt_of_cell? w4 _ m0
          replace HM := Lib.hid (HM.out.below hbk)
          replace HL := Lib.hid (HL.out.below hbk)
          replace hB := bthen hB hbk
          have P := Lib.hid hrd
          clear hrd
          clear hbk hb
          go_wp2_with fail
          refine (r_FrontsG m _ a rows 0 n _ (by exact HM.out.below (Below.refl _ _)) HWS.out HN.out).mono ?_
          rintro e w5 ⟨qa, qc, rfl, hrd, hb⟩
          have hbk : Below w4.heap.size w4 w5 := bthen (Below.refl _ _) hb
          replace m0 := below_cell hbk m0
          replace m1 := below_cell hbk m1
          replace m2 := below_cell hbk m2
          replace hlt_m0 : w.heap.size < w5.heap.size := World.block_lt_of_cell? w5 _ m0
          replace HM := Lib.hid (HM.out.below hbk)
          replace HL := Lib.hid (HL.out.below hbk)
          replace P := Lib.hid (P.out.below hbk)
          replace hB := bthen hB hbk
          have Q := Lib.hid hrd
          clear hrd
          clear hbk hb
          have tok1 : True := trivial
          go_wp2_with fail
          go_region_held3 (fun w' => w'.cell? ⟨w.heap.size, 0, none⟩ = some (.int .i64 m.n) ∧ w'.cell? ⟨w.heap.size, 1, none⟩ = some (.slice ka m.ks.length kc) ∧ w'.cell? ⟨w.heap.size, 2, none⟩ = some (.slice oa m.os.length oc)) (first | go_keep | (go_split_ands; exact ⟨below_cell hb4 ‹_›, below_cell hb4 ‹_›, below_cell hb4 ‹_›⟩) | (go_split_ands; exact ⟨below_cell hb3 ‹_›, below_cell hb3 ‹_›, below_cell hb3 ‹_›⟩) | (go_split_ands; exact ⟨below_cell hb2 ‹_›, below_cell hb2 ‹_›, below_cell hb2 ‹_›⟩) | (go_split_ands; exact ⟨below_cell hb1 ‹_›, below_cell hb1 ‹_›, below_cell hb1 ‹_›⟩) | fail)
            (first
              | (go_at_call 33; refine (r_SameFronts rows rows pa qa n n pc qc true _ HN.out HN.out (by simp) (by exact P.out.below (Below.refl _ _).drew) (by exact Q.out.below (Below.refl _ _).drew) (by omega) (by omega) (fun r hr => by have := HWL.out.2 r hr; omega) (fun r hr => by have := HWL.out.2 r hr; omega)).mono ?_; rintro e x1 ⟨rfl, hb1⟩)
              | (go_at_call 50; have _t := tok1; refine (k_CheckFronts m _ a ll la ln lc _ (by exact HM.out.below (bthen (Below.refl _ _).drew hb1)) HLN.out (by exact HL.out.below (bthen (Below.refl _ _).drew hb1)) (by omega) HK2.out).mono ?_; rintro e x2 ⟨rfl, hb2⟩; rw [← hC.out]; clear tok1)
              | (go_at_call 51; refine (r_CheckFronts m _ a ll la ln lc _ (by exact HM.out.below (bthen (bthen (Below.refl _ _).drew hb1) hb2)) HLN.out (by exact HL.out.below (bthen (bthen (Below.refl _ _).drew hb1) hb2)) (by omega) HK2.out).mono ?_; rintro e x3 ⟨rfl, hb3⟩; rw [← hC.out])
              | (go_at_call 50; refine (k_CheckFronts m _ a rows pa n pc _ (by exact HM.out.below (bthen (bthen (bthen (Below.refl _ _).drew hb1) hb2) hb3)) HN.out (by exact P.out.below (bthen (bthen (bthen (Below.refl _ _).drew hb1) hb2) hb3)) (by omega) (fun r hr => by have := HWL.out.2 r hr; omega)).mono ?_; rintro e x4 ⟨rfl, hb4⟩; rw [HC0.out]))
          have hBz := bthen hB (bthen (bthen (bthen (bthen (Below.refl _ _).drew hb1) hb2) hb3) hb4)
          clear hb4 hb1 hb2 hb3 m0 m1 m2 hB
          go_wp2
          go_ret
          exact ⟨ret_bool (by simp), hBz⟩
end Go.Proofs.Ytjdldmecjhddnaa
