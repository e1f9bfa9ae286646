/- KeeperForms: what it computes is true. -/
import Derived.Test.YtjdldmecjhddnaaK18
import Derived.Test.YtjdldmecjhddnaaK19
import Derived.Test.YtjdldmecjhddnaaKR10
import Derived.Test.YtjdldmecjhddnaaKA2
namespace Go.Proofs.Ytjdldmecjhddnaa
open Go.RowKit
set_option linter.unusedVariables false
set_option linter.unusedSimpArgs false

theorem k_WidthsE (m : Mk) (mv : Value) (l : List Int) (la : Option Addr) (lc : Nat) (rows : List (List Int)) (er : Int) (n : Nat) (w : World) (hm : MkRd w m mv) (hl : RdI w la l) (hll : l.length ≤ 140737488355328) (hr : widthsF m l = (rows, er)) (hn : rows.length = n) :
    Calls Try.prog 55 #[mv, .slice la l.length lc] w fun e w' => ∃ va vc, e = .returned (.tuple #[.slice va n vc, .int .i64 er]) ∧ RdLI w' va rows ∧ Below w.heap.size w w' := by
  refine (k_Widths m mv l la lc w hm hl hll).mono ?_
  rintro e w' ⟨va, vc, he, hl, hb⟩
  rw [hr] at he hl
  subst hn
  exact ⟨va, vc, he, hl, hb⟩
theorem r_WidthsE (m : Mk) (mv : Value) (l : List Int) (la : Option Addr) (lc : Nat) (rows : List (List Int)) (er : Int) (n : Nat) (w : World) (hm : MkRd w m mv) (hl : RdI w la l) (hll : l.length ≤ 140737488355328) (hr : widthsF m l = (rows, er)) (hn : rows.length = n) :
    Calls Try.prog 56 #[mv, .slice la l.length lc] w fun e w' => ∃ va vc, e = .returned (.tuple #[.slice va n vc, .int .i64 er]) ∧ RdLI w' va rows ∧ Below w.heap.size w w' := by
  refine (r_Widths m mv l la lc w hm hl hll).mono ?_
  rintro e w' ⟨va, vc, he, hl, hb⟩
  rw [hr] at he hl
  subst hn
  exact ⟨va, vc, he, hl, hb⟩
set_option maxHeartbeats 8000000 in
set_option maxRecDepth 100000 in
theorem law_Forms (m : Mk) (mv : Value) (l : List Int) (la : Option Addr) (ln lc : Nat) (a b : Int) (w : World) (hm : MkRd w m mv) (hln : l.length = ln) (hl : RdI w la l) (hll : ln ≤ 140737488355328) :
    Calls Try.prog 12 #[mv, .slice la ln lc, .int .i64 a, .int .i64 b] w fun e w' => e = .returned (.bool true) ∧ Below w.heap.size w w' := by
  subst hln
  have HM := Lib.hid hm
  obtain ⟨ka, kc, oa, oc, rfl, _⟩ := hm
  have HL := Lib.hid hl
  clear hl
  cases hfew : fewB m with
  | false =>
    have HFEW := Lib.hid hfew
    clear hfew
    go_enter Try.func12, Try.ntmps12
    go_wp2_with fail
    refine (l_sane _).mono ?_
    rintro e w1 ⟨rfl, hb⟩
    have hbk : Below w.heap.size w w1 := bthen (bal (Below.refl _ _) (.cells #[.int .i64 m.n, .slice ka m.ks.length kc, .slice oa m.os.length oc] 24)) hb
    have m0 := below_cell hb (show (w.alloc (.cells #[.int .i64 m.n, .slice ka m.ks.length kc, .slice oa m.os.length oc] 24)).cell? ⟨w.heap.size, 0, none⟩ = some (.int .i64 m.n) from by simp)
    have m1 := below_cell hb (show (w.alloc (.cells #[.int .i64 m.n, .slice ka m.ks.length kc, .slice oa m.os.length oc] 24)).cell? ⟨w.heap.size, 1, none⟩ = some (.slice ka m.ks.length kc) from by simp)
    have m2 := below_cell hb (show (w.alloc (.cells #[.int .i64 m.n, .slice ka m.ks.length kc, .slice oa m.os.length oc] 24)).cell? ⟨w.heap.size, 2, none⟩ = some (.slice oa m.os.length oc) from by simp)
    have hlt_m0 : w.heap.size < w1.heap.size := World.block_lt_of_cell? w1 _ m0
    replace HM := Lib.hid (HM.out.below hbk)
    replace HL := Lib.hid (HL.out.below hbk)
    have hB := hbk
    clear hbk hb
    go_wp2_with fail
    refine (l_few m _ _ (by exact HM.out.below (Below.refl _ _))).mono ?_
    rintro e w2 ⟨rfl, hb⟩
    rw [HFEW.out]
    have hbk : Below w1.heap.size w1 w2 := bthen (Below.refl _ _) hb
    replace m0 := below_cell hbk m0
    replace m1 := below_cell hbk m1
    replace m2 := below_cell hbk m2
    replace hlt_m0 : w.heap.size < w2.heap.size := World.block_lt_of_cell? w2 _ m0
    replace HM := Lib.hid (HM.out.below hbk)
    replace HL := Lib.hid (HL.out.below hbk)
    replace hB := bthen hB hbk
    clear hbk hb
    go_wp2
    go_ret
    exact ⟨rfl, hB⟩
  | true =>
    have HFEW := Lib.hid hfew
    clear hfew
    cases hs : decide (l.length ≤ 100) with
    | false =>
      have HS := Lib.hid hs
      clear hs
      go_enter Try.func12, Try.ntmps12
      go_wp2_with fail
      refine (l_sane _).mono ?_
      rintro e w1 ⟨rfl, hb⟩
      have hbk : Below w.heap.size w w1 := bthen (bal (Below.refl _ _) (.cells #[.int .i64 m.n, .slice ka m.ks.length kc, .slice oa m.os.length oc] 24)) hb
      have m0 := below_cell hb (show (w.alloc (.cells #[.int .i64 m.n, .slice ka m.ks.length kc, .slice oa m.os.length oc] 24)).cell? ⟨w.heap.size, 0, none⟩ = some (.int .i64 m.n) from by simp)
      have m1 := below_cell hb (show (w.alloc (.cells #[.int .i64 m.n, .slice ka m.ks.length kc, .slice oa m.os.length oc] 24)).cell? ⟨w.heap.size, 1, none⟩ = some (.slice ka m.ks.length kc) from by simp)
      have m2 := below_cell hb (show (w.alloc (.cells #[.int .i64 m.n, .slice ka m.ks.length kc, .slice oa m.os.length oc] 24)).cell? ⟨w.heap.size, 2, none⟩ = some (.slice oa m.os.length oc) from by simp)
      have hlt_m0 : w.heap.size < w1.heap.size := World.block_lt_of_cell? w1 _ m0
      replace HM := Lib.hid (HM.out.below hbk)
      replace HL := Lib.hid (HL.out.below hbk)
      have hB := hbk
      clear hbk hb
      go_wp2_with fail
      refine (l_few m _ _ (by exact HM.out.below (Below.refl _ _))).mono ?_
      rintro e w2 ⟨rfl, hb⟩
      rw [HFEW.out]
      have hbk : Below w1.heap.size w1 w2 := bthen (Below.refl _ _) hb
      replace m0 := below_cell hbk m0
      replace m1 := below_cell hbk m1
      replace m2 := below_cell hbk m2
      replace hlt_m0 : w.heap.size < w2.heap.size := World.block_lt_of_cell? w2 _ m0
      replace HM := Lib.hid (HM.out.below hbk)
      replace HL := Lib.hid (HL.out.below hbk)
      replace hB := bthen hB hbk
      clear hbk hb
      go_wp2_with fail
      refine (l_short la l.length lc _ _ _ hll (RdV_one _ _ _)).mono ?_
      rintro e w3 ⟨rfl, hb⟩
      rw [HS.out]
      have hbk : Below w2.heap.size w2 w3 := bthen (bal (Below.refl _ _) (.cells #[.slice la l.length lc] 27)) hb
      replace m0 := below_cell hbk m0
      replace m1 := below_cell hbk m1
      replace m2 := below_cell hbk m2
      replace hlt_m0 : w.heap.size < w3.heap.size := World.block_lt_of_cell? w3 _ m0
      replace HM := Lib.hid (HM.out.below hbk)
      replace HL := Lib.hid (HL.out.below hbk)
      replace hB := bthen hB hbk
      clear hbk hb
      go_wp2
      go_ret
      exact ⟨rfl, hB⟩
    | true =>
      have HS := Lib.hid hs
      clear hs
      obtain ⟨RW, hRW⟩ : ∃ R, Hid (R = widthF m l a b) := ⟨_, Lib.hid rfl⟩
      obtain ⟨RC, hRC⟩ : ∃ R, Hid (R = costF m l) := ⟨_, Lib.hid rfl⟩
      obtain ⟨rows, er, hWS⟩ : ∃ rows er, widthsF m l = (rows, er) := ⟨_, _, rfl⟩
      have hwl := widthsF_len m l
      rw [hWS] at hwl
      have HWL := Lib.hid hwl
      obtain ⟨n, hn⟩ : ∃ n, rows.length = n := ⟨_, rfl⟩
      have hn8 : n ≤ 8 := by rw [← hn]; exact hwl.1
      have HWS := Lib.hid hWS
      have HN := Lib.hid hn
      clear hwl hWS hn
      go_enter Try.func12, Try.ntmps12
      go_wp2_with fail
      refine (l_sane _).mono ?_
      rintro e w1 ⟨rfl, hb⟩
      have hbk : Below w.heap.size w w1 := bthen (bal (Below.refl _ _) (.cells #[.int .i64 m.n, .slice ka m.ks.length kc, .slice oa m.os.length oc] 24)) hb
      have m0 := below_cell hb (show (w.alloc (.cells #[.int .i64 m.n, .slice ka m.ks.length kc, .slice oa m.os.length oc] 24)).cell? ⟨w.heap.size, 0, none⟩ = some (.int .i64 m.n) from by simp)
      have m1 := below_cell hb (show (w.alloc (.cells #[.int .i64 m.n, .slice ka m.ks.length kc, .slice oa m.os.length oc] 24)).cell? ⟨w.heap.size, 1, none⟩ = some (.slice ka m.ks.length kc) from by simp)
      have m2 := below_cell hb (show (w.alloc (.cells #[.int .i64 m.n, .slice ka m.ks.length kc, .slice oa m.os.length oc] 24)).cell? ⟨w.heap.size, 2, none⟩ = some (.slice oa m.os.length oc) from by simp)
      have hlt_m0 : w.heap.size < w1.heap.size := World.block_lt_of_cell? w1 _ m0
      replace HM := Lib.hid (HM.out.below hbk)
      replace HL := Lib.hid (HL.out.below hbk)
      have hB := hbk
      clear hbk hb
      go_wp2_with fail
      refine (l_few m _ _ (by exact HM.out.below (Below.refl _ _))).mono ?_
      rintro e w2 ⟨rfl, hb⟩
      rw [HFEW.out]
      have hbk : Below w1.heap.size w1 w2 := bthen (Below.refl _ _) hb
      replace m0 := below_cell hbk m0
      replace m1 := below_cell hbk m1
      replace m2 := below_cell hbk m2
      replace hlt_m0 : w.heap.size < w2.heap.size := World.block_lt_of_cell? w2 _ m0
      replace HM := Lib.hid (HM.out.below hbk)
      replace HL := Lib.hid (HL.out.below hbk)
      replace hB := bthen hB hbk
      clear hbk hb
      go_wp2_with fail
      refine (l_short la l.length lc _ _ _ hll (RdV_one _ _ _)).mono ?_
      rintro e w3 ⟨rfl, hb⟩
      rw [HS.out]
      have hbk : Below w2.heap.size w2 w3 := bthen (bal (Below.refl _ _) (.cells #[.slice la l.length lc] 27)) hb
      replace m0 := below_cell hbk m0
      replace m1 := below_cell hbk m1
      replace m2 := below_cell hbk m2
      replace hlt_m0 : w.heap.size < w3.heap.size := World.block_lt_of_cell? w3 _ m0
      replace HM := Lib.hid (HM.out.below hbk)
      replace HL := Lib.hid (HL.out.below hbk)
      replace hB := bthen hB hbk
      clear hbk hb
      go_wp2_with fail
      refine (k_Width m _ l la lc a b _ (by exact HM.out.below (Below.refl _ _)) (by exact HL.out.below (Below.refl _ _)) hll).mono ?_
      rintro e w4 ⟨rfl, hb⟩
      rw [← hRW.out]
      have hbk : Below w3.heap.size w3 w4 := bthen (Below.refl _ _) hb
      replace m0 := below_cell hbk m0
      replace m1 := below_cell hbk m1
      replace m2 := below_cell hbk m2
      replace hlt_m0 : w.heap.size < w4.heap.size := World.block_lt_of_cell? w4 _ m0
      replace HM := Lib.hid (HM.out.below hbk)
      replace HL := Lib.hid (HL.out.below hbk)
      replace hB := bthen hB hbk
      clear hbk hb
      go_wp2_with fail
      refine (r_Width m _ l la lc a b _ (by exact HM.out.below (Below.refl _ _)) (by exact HL.out.below (Below.refl _ _)) hll).mono ?_
      rintro e w5 ⟨rfl, hb⟩
      rw [← hRW.out]
      have hbk : Below w4.heap.size w4 w5 := bthen (Below.refl _ _) hb
      replace m0 := below_cell hbk m0
      replace m1 := below_cell hbk m1
      replace m2 := below_cell hbk m2
      replace hlt_m0 : w.heap.size < w5.heap.size := World.block_lt_of_cell? w5 _ m0
      replace HM := Lib.hid (HM.out.below hbk)
      replace HL := Lib.hid (HL.out.below hbk)
      replace hB := bthen hB hbk
      clear hbk hb
      go_wp2_with fail
      refine (k_Cost m _ l la lc _ (by exact HM.out.below (Below.refl _ _)) (by exact HL.out.below (Below.refl _ _)) hll).mono ?_
      rintro e w6 ⟨rfl, hb⟩
      rw [← hRC.out]
      have hbk : Below w5.heap.size w5 w6 := bthen (Below.refl _ _) hb
      replace m0 := below_cell hbk m0
      replace m1 := below_cell hbk m1
      replace m2 := below_cell hbk m2
      replace hlt_m0 : w.heap.size < w6.heap.size := World.block_lt_of_cell? w6 _ m0
      replace HM := Lib.hid (HM.out.below hbk)
      replace HL := Lib.hid (HL.out.below hbk)
      replace hB := bthen hB hbk
      clear hbk hb
      go_wp2_with fail
      refine (r_Cost m _ l la lc _ (by exact HM.out.below (Below.refl _ _)) (by exact HL.out.below (Below.refl _ _)) hll).mono ?_
      rintro e w7 ⟨rfl, hb⟩
      rw [← hRC.out]
      have hbk : Below w6.heap.size w6 w7 := bthen (Below.refl _ _) hb
      replace m0 := below_cell hbk m0
      replace m1 := below_cell hbk m1
      replace m2 := below_cell hbk m2
      replace hlt_m0 : w.heap.size < w7.heap.size := World.block_lt_of_cell? w7 _ m0
      replace HM := Lib.hid (HM.out.below hbk)
      replace HL := Lib.hid (HL.out.below hbk)
      replace hB := bthen hB hbk
      clear hbk hb
      go_wp2_with fail
      refine (k_WidthsE m _ l la lc rows er n _ (by exact HM.out.below (Below.refl _ _)) (by exact HL.out.below (Below.refl _ _)) hll HWS.out HN.out).mono ?_
      rintro e w8 ⟨pa, pc, rfl, hrd, hb⟩
      have hbk : Below w7.heap.size w7 w8 := bthen (Below.refl _ _) hb
      replace m0 := below_cell hbk m0
      replace m1 := below_cell hbk m1
      replace m2 := below_cell hbk m2
      replace hlt_m0 : w.heap.size < w8.heap.size := World.block_lt_of_cell? w8 _ m0
      replace HM := Lib.hid (HM.out.below hbk)
      replace HL := Lib.hid (HL.out.below hbk)
      replace hB := bthen hB hbk
      have P := Lib.hid hrd
      clear hrd
      clear hbk hb
      go_wp2_with fail
      refine (r_WidthsE m _ l la lc rows er n _ (by exact HM.out.below (Below.refl _ _)) (by exact HL.out.below (Below.refl _ _)) hll HWS.out HN.out).mono ?_
      rintro e w9 ⟨qa, qc, rfl, hrd, hb⟩
      have hbk : Below w8.heap.size w8 w9 := bthen (Below.refl _ _) hb
      replace m0 := below_cell hbk m0
      replace m1 := below_cell hbk m1
      replace m2 := below_cell hbk m2
      replace hlt_m0 : w.heap.size < w9.heap.size := World.block_lt_of_cell? w9 _ m0
      replace HM := Lib.hid (HM.out.below hbk)
      replace HL := Lib.hid (HL.out.below hbk)
      replace P := Lib.hid (P.out.below hbk)
      replace hB := bthen hB hbk
      have Q := Lib.hid hrd
      clear hrd
      clear hbk hb
      go_wp2_with fail
      go_region_held3 (fun w' => w'.cell? ⟨w.heap.size, 0, none⟩ = some (.int .i64 m.n) ∧ w'.cell? ⟨w.heap.size, 1, none⟩ = some (.slice ka m.ks.length kc) ∧ w'.cell? ⟨w.heap.size, 2, none⟩ = some (.slice oa m.os.length oc)) (first | go_keep | (go_split_ands; exact ⟨below_cell hb3 ‹_›, below_cell hb3 ‹_›, below_cell hb3 ‹_›⟩) | (go_split_ands; exact ⟨below_cell hb2 ‹_›, below_cell hb2 ‹_›, below_cell hb2 ‹_›⟩) | (go_split_ands; exact ⟨below_cell hb1 ‹_›, below_cell hb1 ‹_›, below_cell hb1 ‹_›⟩) | fail)
        (first
          | (go_at_call 38; refine (k_Check m _ _ (by exact HM.out.below (Below.refl _ _).drew)).mono ?_; rintro e x1 ⟨rfl, hb1⟩)
          | (go_at_call 39; refine (r_Check m _ _ (by exact HM.out.below (bthen (Below.refl _ _).drew hb1))).mono ?_; rintro e x2 ⟨rfl, hb2⟩)
          | (go_at_call 57; refine (r_SameRows rows rows pa qa n n pc qc true _ HN.out HN.out (by simp) (by exact P.out.below (bthen (bthen (Below.refl _ _).drew hb1) hb2)) (by exact Q.out.below (bthen (bthen (Below.refl _ _).drew hb1) hb2)) (by omega) (by omega) (fun r hr => by have := HWL.out.2 r hr; omega) (fun r hr => by have := HWL.out.2 r hr; omega)).mono ?_; rintro e x3 ⟨rfl, hb3⟩))
      have hBz := bthen hB (bthen (bthen (bthen (Below.refl _ _).drew hb1) hb2) hb3)
      clear hb1 hb2 hb3 m0 m1 m2 hB
      go_wp2
      go_ret
      exact ⟨ret_bool (by simp), hBz⟩
end Go.Proofs.Ytjdldmecjhddnaa
