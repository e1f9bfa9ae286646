/- KeeperScaled: what it computes is true. -/
import Derived.Test.YtjdldmecjhddnaaK18
import Derived.Test.YtjdldmecjhddnaaKBld
import Derived.Test.YtjdldmecjhddnaaKM10
import Derived.Deep.CutRange
namespace Go.Proofs.Ytjdldmecjhddnaa
open Go.RowKit
set_option linter.unusedVariables false
set_option linter.unusedSimpArgs false

/-- Two markets that a law lays, in whichever order. -/
def TwoBx (w wx : World) (n : Int) (ka : Option Addr) (kn kc : Nat) (v15 v16 : Value) : Prop :=
  ∃ X Y, v15 = .pointer (some ⟨X, 0, none⟩) ∧ v16 = .pointer (some ⟨Y, 0, none⟩) ∧ Bx wx X (.int .i64 n) (.slice none 0 0) (.slice none 0 0) ∧ Bx wx Y (.int .i64 n) (.slice ka kn kc) (.slice none 0 0)
    ∧ w.heap.size ≤ X ∧ w.heap.size ≤ Y ∧ X ≠ Y ∧ Below w.heap.size w wx
theorem own_sep {w : World} {base : Nat} {e : TypeId} {s n : Nat} {v : Value} {xs : List Value} (h : w.ownsRow base e s v n xs) {X : Nat} (hX : X < base) : v.ownBlock ≠ some X := fun e => by
  have := (h.lt X e).1; omega
theorem own_sep' {w : World} {base : Nat} {e : TypeId} {s n : Nat} {v : Value} {xs : List Value} (h : w.ownsRow base e s v n xs) : v.ownBlock ≠ some w.heap.size := fun e => by
  have := (h.lt _ e).2; omega
theorem at_sep {v v' : Value} {s X : Nat} (hat : v'.ownBlock = v.ownBlock ∨ v'.ownBlock = some s) (h : v.ownBlock ≠ some X) (hs : X < s) : v'.ownBlock ≠ some X := fun e => by
  rcases hat with h1 | h1
  · exact h (h1.symm.trans e)
  · rw [h1] at e; injection e with e; omega
theorem sep_symm {a b : Option Nat} (h : a = none ∨ a ≠ b) : b = none ∨ b ≠ a := by
  cases b with
  | none => exact .inl rfl
  | some b => right; intro e; rcases h with h | h; rw [h] at e; cases e; exact h e.symm
theorem at_rows {w : World} {base : Nat} {e : TypeId} {sz n s : Nat} {v v' u : Value} {xs : List Value} (hat : v'.ownBlock = v.ownBlock ∨ v'.ownBlock = some s) (hu : w.ownsRow base e sz u n xs) (hs : w.heap.size ≤ s)
    (h : u.ownBlock = none ∨ u.ownBlock ≠ v.ownBlock) : u.ownBlock = none ∨ u.ownBlock ≠ v'.ownBlock := by
  rcases hat with h1 | h1
  · rw [h1]; exact h
  · right; rw [h1]; intro e; have := (hu.lt _ e).2; omega
set_option maxHeartbeats 16000000 in
set_option maxRecDepth 100000 in
theorem scaled_main (m : Mk) (mv : Value) (l : List Int) (la : Option Addr) (lc : Nat) (a b width k : Int) (x : Nat) (w : World) (hm : MkRd w m mv) (hl : RdI w la l) (hll : l.length ≤ 140737488355328) (hask : askedB m l [a, b] = true) (h0' : 0 ≤ width) (h1' : width ≤ 16777216) (k1 : 1 ≤ k) (k2 : k ≤ 1000) (x0 : (0 : Int) ≤ (x : Int)) (x1 : (x : Int) < m.os.length) (hin : ∀ o ∈ m.ks, o.C = 0 ∧ 0 ≤ o.W ∧ o.W ≤ 1048576) (hino : ∀ o ∈ m.os, 0 ≤ o.C ∧ o.C ≤ 10000 ∧ 0 ≤ o.W ∧ o.W ≤ 1048576) (k24 : m.ks.length ≤ 24) (o12 : m.os.length ≤ 12) (bl : List Int) (is : Bool) (n : Int) (kn : Bool) (c p : Int) (so : Bool) (er : Int) (e1 : bestF m a b width = (bl, is, 0)) (e2 : widthF m l a b = (n, kn, 0)) (lbl : bl.length ≤ 140737488355328) (e3 : costF m bl = (c, 0)) (e4 : priceF m a b width x = (p, so, er)) (bn0 : 0 ≤ n) (bn1 : n ≤ 7340032) (bc0 : 0 ≤ c) (bc1 : c ≤ 120000) (bp0 : -120000 ≤ p) (bp1 : p ≤ 120000) (hwi : (wideM k m).ok = true → widthF (wideM k m) l a b = (n * k, kn, 0) ∧ (width * k ≤ 16777216 → bestF (wideM k m) a b (width * k) = (bl, is, 0))) (hde : (dearM k m).ok = true → bestF (dearM k m) a b width = (bl, is, 0) ∧ costF (dearM k m) bl = (k * c, 0) ∧ priceF (dearM k m) a b width x = (k * p, so, er)) :
    Calls Try.prog 7 #[mv, .slice la l.length lc, .int .i64 a, .int .i64 b, .int .i64 width, .int .i64 x, .int .i64 k] w fun e w' => e = .returned (.bool true) ∧ Below w.heap.size w w' := by
  have HM := Lib.hid hm
  obtain ⟨ka, kc, oa, oc, rfl, hks, hos, _, _⟩ := hm
  have HASK := Lib.hid hask
  have HL := Lib.hid hl
  have HIN := Lib.hid hin
  have HINO := Lib.hid hino
  have HB1 := Lib.hid e1
  have HW1 := Lib.hid e2
  have HC1 := Lib.hid e3
  have HP1 := Lib.hid e4
  have HWI := Lib.hid hwi
  have HDE := Lib.hid hde
  clear hask hl hin hino e1 e2 e3 e4 hwi hde
  go_enter Try.func7, Try.ntmps7
  go_wp2_with fail
  refine (l_sane _).mono ?_
  rintro e w1 ⟨rfl, hb⟩
  have hbk : Below w.heap.size w w1 := bthen (bal (Below.refl _ _) (.cells #[.int .i64 m.n, .slice ka m.ks.length kc, .slice oa m.os.length oc] 24)) hb
  have m0 := below_cell hb (show (w.alloc (.cells #[.int .i64 m.n, .slice ka m.ks.length kc, .slice oa m.os.length oc] 24)).cell? ⟨w.heap.size, 0, none⟩ = some (.int .i64 m.n) from by simp)
  have m1 := below_cell hb (show (w.alloc (.cells #[.int .i64 m.n, .slice ka m.ks.length kc, .slice oa m.os.length oc] 24)).cell? ⟨w.heap.size, 1, none⟩ = some (.slice ka m.ks.length kc) from by simp)
  have m2 := below_cell hb (show (w.alloc (.cells #[.int .i64 m.n, .slice ka m.ks.length kc, .slice oa m.os.length oc] 24)).cell? ⟨w.heap.size, 2, none⟩ = some (.slice oa m.os.length oc) from by simp)
  have hlt_m0 : w.heap.size < w1.heap.size := World.block_lt_of_cell? w1 _ m0
  replace HM := Lib.hid (HM.out.below hbk)
  replace HL := Lib.hid (HL.out.below hbk)
  have hB := hbk
  clear hbk hb
  go_wp2_with fail
  refine (l_asked m _ l [a, b] la _ lc _ 2 _ (by exact HM.out.below (bal (Below.refl _ _) (.cells #[.int .i64 a, .int .i64 b] 3))) (by exact HL.out.below (bal (Below.refl _ _) (.cells #[.int .i64 a, .int .i64 b] 3))) hll (by simpa using rdI_new w1 [a, b] 3 : RdI _ (some ⟨w1.heap.size, 0, none⟩) [a, b]) rfl (by decide)).mono ?_
  rintro e w2 ⟨rfl, hb⟩
  rw [HASK.out]
  have hbk : Below w1.heap.size w1 w2 := bthen (bal (Below.refl _ _) (.cells #[.int .i64 a, .int .i64 b] 3)) hb
  replace m0 := below_cell hbk m0
  replace m1 := below_cell hbk m1
  replace m2 := below_cell hbk m2
  replace hlt_m0 : w.heap.size < w2.heap.size := World.block_lt_of_cell? w2 _ m0
  replace HM := Lib.hid (HM.out.below hbk)
  replace HL := Lib.hid (HL.out.below hbk)
  replace hB := bthen hB hbk
  clear hbk hb
  have HKS := Lib.hid ((hks.below hB))
  have HOS := Lib.hid ((hos.below hB))
  clear hks hos
  go_upto_region 5 with fail
  go_cut [15, 16] from 44 to 87 (fun v15 v16 wx => TwoBx w2 wx m.n ka m.ks.length kc v15 v16)
  case first =>
    go_region
    all_goals (go_wp2_with fail; go_meet)
    · exact ⟨_, _, rfl, rfl, (Bx.new _ _ _ _ rfl).below (bal (Below.refl _ _) _).drew, (Bx.new _ _ _ _ (by simp)).below (Below.refl _ _).drew, Nat.le_refl _, by omega, by omega, (bal (bal (Below.refl _ _) _) _).drew⟩
    · exact ⟨_, _, rfl, rfl, (Bx.new _ _ _ _ (by simp)).below (Below.refl _ _).drew, (Bx.new _ _ _ _ rfl).below (bal (Below.refl _ _) _).drew, by omega, Nat.le_refl _, by omega, (bal (bal (Below.refl _ _) _) _).drew⟩
  case rest =>
    obtain ⟨X, Y, rfl, rfl, hX, hY, lX, lY, hXY, hBc⟩ := hcut
    have M0 := Lib.hid m0
    have M1 := Lib.hid m1
    have M2 := Lib.hid m2
    clear m2
    replace m1 := below_cell hBc m1
    have lX' := hX.lt
    have lY' := hY.lt
    have HX1 := Lib.hid hX
    have HY1 := Lib.hid hY
    have HBC := Lib.hid hBc
    clear hX hY hBc
    go_wp2_with fail
    go_loopw [91] (fun i wr => ∃ j : Nat, j ≤ m.ks.length ∧ i = .int .i64 j ∧ (∃ v, Bx wr X (.int .i64 m.n) v (.slice none 0 0) ∧ Bx wr Y (.int .i64 m.n) (.slice ka m.ks.length kc) (.slice none 0 0) ∧ wr.ownsRow wc.heap.size 59 4 v j (((m.ks.take j).map (scO k)).flatMap encO)) ∧ Below w2.heap.size w2 wr ∧ wc.heap.size ≤ wr.heap.size) (fun i _ => m.ks.length - (intOf i).toNat)
    case atStart => exact ⟨0, Nat.zero_le _, rfl, ⟨_, HX1.out, HY1.out, World.ownsRow_nil _ _ _ _⟩, HBC.out, Nat.le_refl _⟩
    case round =>
      obtain ⟨j, hj, rfl, ⟨v, hX, hY, hown⟩, hBL, hsz⟩ := hrel
      by_cases hlt : j < m.ks.length
      · obtain ⟨b', off, o, rfl, hx, q0, q1, q2, q3⟩ := (HKS.out.below hBL).ato (i := j) hlt
        obtain ⟨A, Bc, C, W⟩ := o
        simp only at q0 q1 q2 q3
        have ho := HIN.out _ (List.mem_of_getElem? hx)
        obtain ⟨hA, hW0, hW1⟩ := ho
        simp only at hA hW0 hW1
        subst hA
        have HXX := Lib.hid hx
        clear hx
        have hmul0 : 0 ≤ W * k := Int.mul_nonneg hW0 (by omega)
        have hmul1 : W * k ≤ 1048576000 := by have := Int.mul_le_mul hW1 k2 (by omega) (by omega); omega
        have hmulw : IntKind.i64.wrap (W * k) = W * k := by rw [IntKind.wrap_i64]; omega
        have lXr := hX.lt
        have c1 := hX.c1
        have z1 := hX.z1
        have HXb := Lib.hid hX
        have HYb := Lib.hid hY
        have HBL := Lib.hid hBL
        have HOWN := Lib.hid hown
        clear hX hY hBL hown
        go_wp2_with (at_builtin; refine ap1g rfl _ _ 22 rfl wc.heap.size 59 (.agg #[.int .i64 0, .int .i64 0, .int .i64 0, .int .i64 0]) 4 32 info_off Try.underlying22 rfl (by decide) (by decide) v _ _ rfl (own_below HOWN.out (bal (bal (Below.refl _ _) _) _)) [.int .i64 A, .int .i64 Bc, .int .i64 0, .int .i64 (W * k)] (wr.heap.size + 1) rfl rfl (fun t u hu => cnew (by simp) (by simpa using hu)) rfl (by omega) (by simp; omega) ?_; intro v' w5 hown5 hgr hat; obtain ⟨va, vc, rfl⟩ := own_form hown5; have hX5 := (HXb.out.below (bal (bal (Below.refl _ _) _) _)).grown hgr (own_sep HOWN.out lX'); have c1' := hX5.c1; have z1' := hX5.z1)
        have hsx := (at_sep hat (own_sep HOWN.out lX') (by simp; omega))
        have HY5 := ((HYb.out.below (bal (bal (Below.refl _ _) _) _)).grown hgr (own_sep HOWN.out lY')).other (p := ⟨X, 1, none⟩) (.slice va (j + 1) vc) hXY
        have HO5 := ownsRow_setCell_other hown5 (a := ⟨X, 1, none⟩) hsx (.slice va (j + 1) vc)
        have HB5 := ((bthen HBL.out (bal (bal (Below.refl _ _) _) _)).grown hgr (by simp; omega) (fun q e => by have := (HOWN.out.lt q e).1; omega)).setCell (p := ⟨X, 1, none⟩) lX (.slice va (j + 1) vc)
        have hg5 := hgr.size
        go_roundw
        case rel =>
          refine ⟨j + 1, by omega, by go_num, ⟨_, hX5.set1 _, HY5, ?_⟩, HB5, by simp at hg5 ⊢; omega⟩
          rw [take_snoc HXX.out, List.map_append, List.flatMap_append]
          exact HO5
        case measure => simp [intOf]; omega
      · obtain rfl : j = m.ks.length := by omega
        have m2 := below_cell hBL M2.out
        obtain ⟨v1a, v1c, rfl⟩ := own_form hown
        obtain ⟨a', c', hv1, hrd1⟩ := own_rd (enc := encO) (k := 4) (fun _ => rfl) (show wr.ownsRow wc.heap.size 59 4 (.slice v1a m.ks.length v1c) (m.ks.map (scO k)).length ((m.ks.map (scO k)).flatMap encO) from by
          have := hown
          rw [List.take_of_length_le (Nat.le_refl _)] at this
          rw [List.length_map]; exact this)
        have ha' : v1a = a' := by injection hv1
        subst ha'
        have HRD1 := Lib.hid hrd1
        have HV1 := Lib.hid (fun (ad : Addr) (e : v1a = some ad) => show ad.block ≠ X ∧ ad.block ≠ Y from by
          have := (hown.lt ad.block (by rw [e]; rfl)).1
          exact ⟨by omega, by omega⟩)
        obtain ⟨ws, rfl⟩ : ∃ ws : World, ws = wr := ⟨_, rfl⟩
        have lXs := hX.lt
        have lYs := hY.lt
        have hss := hBL.size
        have HXS := Lib.hid hX
        have HYS := Lib.hid hY
        have HBS := Lib.hid hBL
        clear hX hY hBL hown hrd1 hv1 HX1 HY1 HBC hlt hj
        go_wp2_with fail
        clear m2
        go_loopw [113] (fun i wq => ∃ j : Nat, j ≤ m.os.length ∧ i = .int .i64 j ∧ (∃ vX vY, Bx wq X (.int .i64 m.n) (.slice v1a m.ks.length v1c) vX ∧ Bx wq Y (.int .i64 m.n) (.slice ka m.ks.length kc) vY ∧ wq.ownsRow ws.heap.size 59 4 vX j (((m.os.take j).map (scO k)).flatMap encO) ∧ wq.ownsRow ws.heap.size 59 4 vY j (((m.os.take j).map (deO k)).flatMap encO) ∧ (vY.ownBlock = none ∨ vY.ownBlock ≠ vX.ownBlock)) ∧ Below w2.heap.size w2 wq ∧ KpC X Y ws wq) (fun i _ => m.os.length - (intOf i).toNat)
        case atStart => exact ⟨0, Nat.zero_le _, rfl, ⟨_, _, HXS.out, HYS.out, World.ownsRow_nil _ _ _ _, World.ownsRow_nil _ _ _ _, .inl rfl⟩, HBS.out, KpC.refl _ _ _⟩
        case round =>
          clear HXS HYS HBS
          obtain ⟨j, hj, rfl, ⟨vX, vY, hX, hY, hox, hoy, hsep⟩, hBL, hKP⟩ := hrel
          have hsk := hKP.size
          by_cases hlt : j < m.os.length
          · obtain ⟨b', off, o, rfl, hx, q0, q1, q2, q3⟩ := (HOS.out.below hBL).ato (i := j) hlt
            obtain ⟨A, Bc, C, W⟩ := o
            simp only at q0 q1 q2 q3
            have ho := HINO.out _ (List.mem_of_getElem? hx)
            obtain ⟨hC0, hC1, hW0, hW1⟩ := ho
            simp only at hC0 hC1 hW0 hW1
            have HXX := Lib.hid hx
            clear hx
            have hmul0 : 0 ≤ W * k := Int.mul_nonneg hW0 (by omega)
            have hmul1 : W * k ≤ 1048576000 := by have := Int.mul_le_mul hW1 k2 (by omega) (by omega); omega
            have hmulw : IntKind.i64.wrap (W * k) = W * k := by rw [IntKind.wrap_i64]; omega
            have hmul2 : 0 ≤ C * k := Int.mul_nonneg hC0 (by omega)
            have hmul3 : C * k ≤ 10000000 := by have := Int.mul_le_mul hC1 k2 (by omega) (by omega); omega
            have hmulc : IntKind.i64.wrap (C * k) = C * k := by rw [IntKind.wrap_i64]; omega
            have lXr := hX.lt
            have lYr := hY.lt
            have c2 := hX.c2
            have z2 := hX.z2
            have HXb := Lib.hid hX
            have HYb := Lib.hid hY
            have HBL := Lib.hid hBL
            have HKP := Lib.hid hKP
            have HOX := Lib.hid hox
            have HOY := Lib.hid hoy
            have HSEP := Lib.hid hsep
            clear hX hY hBL hKP hox hoy hsep
            go_upto_region 15 with (at_builtin; refine ap1g rfl _ _ 22 rfl ws.heap.size 59 (.agg #[.int .i64 0, .int .i64 0, .int .i64 0, .int .i64 0]) 4 32 info_off Try.underlying22 rfl (by decide) (by decide) vX _ _ rfl (own_below HOX.out (bal (bal (Below.refl _ _) _) _)) [.int .i64 A, .int .i64 Bc, .int .i64 C, .int .i64 (W * k)] (wr.heap.size + 1) rfl rfl (fun t u hu => cnew (by simp) (by simpa using hu)) rfl (by omega) (by simp; omega) ?_; intro v' w5 hown5 hgr hat; obtain ⟨va, vc, rfl⟩ := own_form hown5; have hX5 := (HXb.out.below (bal (bal (Below.refl _ _) _) _)).grown hgr (own_sep HOX.out lXs); have c2' := hX5.c2; have z2' := hX5.z2)
            have hsx := (at_sep hat (own_sep HOX.out lXs) (by simp; omega))
            have oc0 : (w5.setCell ⟨X, 2, none⟩ (.slice va (j + 1) vc)).cell? ⟨wr.heap.size, 0, none⟩ = some (.int .i64 A) := by
              rw [World.cell?_setCell_other _ _ _ _ (by intro e; injection e with e; omega)]; exact grown_cell hgr (cal (by simp) _) (own_sep' HOX.out)
            have oc1 : (w5.setCell ⟨X, 2, none⟩ (.slice va (j + 1) vc)).cell? ⟨wr.heap.size, 1, none⟩ = some (.int .i64 Bc) := by
              rw [World.cell?_setCell_other _ _ _ _ (by intro e; injection e with e; omega)]; exact grown_cell hgr (cal (by simp) _) (own_sep' HOX.out)
            have oc2 : (w5.setCell ⟨X, 2, none⟩ (.slice va (j + 1) vc)).cell? ⟨wr.heap.size, 2, none⟩ = some (.int .i64 C) := by
              rw [World.cell?_setCell_other _ _ _ _ (by intro e; injection e with e; omega)]; exact grown_cell hgr (cal (by simp) _) (own_sep' HOX.out)
            have oc3 : (w5.setCell ⟨X, 2, none⟩ (.slice va (j + 1) vc)).cell? ⟨wr.heap.size, 3, none⟩ = some (.int .i64 W) := by
              rw [World.cell?_setCell_other _ _ _ _ (by intro e; injection e with e; omega)]; exact grown_cell hgr (cal (by simp) _) (own_sep' HOX.out)
            have HX6 := Lib.hid (hX5.set2 (.slice va (j + 1) vc))
            have HY6 := Lib.hid (((HYb.out.below (bal (bal (Below.refl _ _) _) _)).grown hgr (own_sep HOX.out lYs)).other (p := ⟨X, 2, none⟩) (.slice va (j + 1) vc) hXY)
            have HOX6 := Lib.hid (ownsRow_setCell_other hown5 (a := ⟨X, 2, none⟩) hsx (.slice va (j + 1) vc))
            have HOY6 := Lib.hid (ownsRow_setCell_other ((own_below HOY.out (bal (bal (Below.refl _ _) _) _)).kept hgr HSEP.out) (a := ⟨X, 2, none⟩) (own_sep HOY.out lXs) (.slice va (j + 1) vc))
            have HB6 := Lib.hid (((bthen HBL.out (bal (bal (Below.refl _ _) _) _)).grown hgr (by simp; omega) (fun q e => by have := (HOX.out.lt q e).1; omega)).setCell (p := ⟨X, 2, none⟩) lX (.slice va (j + 1) vc))
            have HK6 := Lib.hid (((HKP.out.below (bal (bal (Below.refl _ _) _) _)).grown hgr (fun q e => (HOX.out.lt q e).1)).set (p := ⟨X, 2, none⟩) (.slice va (j + 1) vc) (.inl rfl))
            have HS6 := Lib.hid (at_rows (v' := .slice va (j + 1) vc) hat HOY.out (by simp; omega) HSEP.out)
            have hg5 : wr.heap.size < (w5.setCell ⟨X, 2, none⟩ (.slice va (j + 1) vc)).heap.size := by have := hgr.size; simp at this ⊢; omega
            clear hX5 c2' z2' hsx hown5 hgr hat c2 z2 q0 q1 q2 q3 HXb HYb HOX HOY HSEP HBL HKP
            generalize w5.setCell ⟨X, 2, none⟩ (.slice va (j + 1) vc) = w6 at *
            have y2 := HY6.out.c2
            have y2z := HY6.out.z2
            have lX6 : X < w6.heap.size := by omega
            have lY6 : Y < w6.heap.size := by omega
            have hs6 := HK6.out.size
            go_wp2_with (at_builtin; refine ap1g rfl _ _ 22 rfl ws.heap.size 59 (.agg #[.int .i64 0, .int .i64 0, .int .i64 0, .int .i64 0]) 4 32 info_off Try.underlying22 rfl (by decide) (by decide) vY _ _ rfl (own_below HOY6.out (bal (Below.refl _ _) _)) [.int .i64 A, .int .i64 Bc, .int .i64 (C * k), .int .i64 W] w6.heap.size rfl rfl (fun t u hu => cnew rfl (by simpa using hu)) rfl (by omega) (by simp; omega) ?_; intro v' w7 hown7 hgr hat; obtain ⟨ya, yc, rfl⟩ := own_form hown7; have hY7 := (HY6.out.below (bal (Below.refl _ _) _)).grown hgr (own_sep HOY6.out lYs); have y2' := hY7.c2; have y2z' := hY7.z2)
            have hsy := (at_sep hat (own_sep HOY6.out lYs) (by simp; omega))
            have HX8 := ((HX6.out.below (bal (Below.refl _ _) _)).grown hgr (own_sep HOY6.out lXs)).other (p := ⟨Y, 2, none⟩) (.slice ya (j + 1) yc) (fun e => hXY e.symm)
            have HY8 := hY7.set2 (.slice ya (j + 1) yc)
            have HOX8 := ownsRow_setCell_other ((own_below HOX6.out (bal (Below.refl _ _) _)).kept hgr (sep_symm HS6.out)) (a := ⟨Y, 2, none⟩) (own_sep HOX6.out lYs) (.slice ya (j + 1) yc)
            have HOY8 := ownsRow_setCell_other hown7 (a := ⟨Y, 2, none⟩) hsy (.slice ya (j + 1) yc)
            have HB8 := ((bthen HB6.out (bal (Below.refl _ _) _)).grown hgr (by simp; omega) (fun q e => by have := (HOY6.out.lt q e).1; omega)).setCell (p := ⟨Y, 2, none⟩) lY (.slice ya (j + 1) yc)
            have HK8 := ((HK6.out.below (bal (Below.refl _ _) _)).grown hgr (fun q e => (HOY6.out.lt q e).1)).set (p := ⟨Y, 2, none⟩) (.slice ya (j + 1) yc) (.inr rfl)
            go_roundw
            case rel =>
              refine ⟨j + 1, by omega, by go_num, ⟨_, _, HX8, HY8, ?_, ?_, sep_symm (at_rows (v' := .slice ya (j + 1) yc) hat HOX6.out (by simp) (sep_symm HS6.out))⟩, HB8, HK8⟩
              · rw [take_snoc HXX.out, List.map_append, List.flatMap_append]
                exact HOX8
              · rw [take_snoc HXX.out, List.map_append, List.flatMap_append]
                exact HOY8
            case measure => simp [intOf]; omega
          · obtain rfl : j = m.os.length := by omega
            obtain ⟨xa, xc, rfl⟩ := own_form hox
            obtain ⟨ya, yc, rfl⟩ := own_form hoy
            obtain ⟨a', c', hv1, hrx⟩ := own_rd (enc := encO) (k := 4) (fun _ => rfl) (show wr.ownsRow ws.heap.size 59 4 (.slice xa m.os.length xc) (m.os.map (scO k)).length ((m.os.map (scO k)).flatMap encO) from by
              have := hox
              rw [List.take_of_length_le (Nat.le_refl _)] at this
              rw [List.length_map]; exact this)
            have ha' : xa = a' := by injection hv1
            subst ha'
            clear hv1
            obtain ⟨a', c', hv1, hry⟩ := own_rd (enc := encO) (k := 4) (fun _ => rfl) (show wr.ownsRow ws.heap.size 59 4 (.slice ya m.os.length yc) (m.os.map (deO k)).length ((m.os.map (deO k)).flatMap encO) from by
              have := hoy
              rw [List.take_of_length_le (Nat.le_refl _)] at this
              rw [List.length_map]; exact this)
            have ha' : ya = a' := by injection hv1
            subst ha'
            clear hv1
            have HMX := Lib.hid (show MkRd wr (wideM k m) (.agg #[.int .i64 m.n, .slice v1a m.ks.length v1c, .slice xa m.os.length xc]) from ⟨v1a, v1c, xa, xc, (by show _ = Value.agg #[.int .i64 m.n, .slice v1a (m.ks.map (scO k)).length v1c, .slice xa (m.os.map (scO k)).length xc]; rw [List.length_map, List.length_map]), (HRD1.out.kpc hKP HV1.out), hrx, (by show (m.ks.map (scO k)).length ≤ _; rw [List.length_map]; omega), (by show (m.os.map (scO k)).length ≤ _; rw [List.length_map]; omega)⟩)
            have HMY := Lib.hid (show MkRd wr (dearM k m) (.agg #[.int .i64 m.n, .slice ka m.ks.length kc, .slice ya m.os.length yc]) from ⟨ka, kc, ya, yc, (by show _ = Value.agg #[.int .i64 m.n, .slice ka m.ks.length kc, .slice ya (m.os.map (deO k)).length yc]; rw [List.length_map]), (HKS.out.below hBL), hry, (by show m.ks.length ≤ _; omega), (by show (m.os.map (deO k)).length ≤ _; rw [List.length_map]; omega)⟩)
            replace HM := Lib.hid (HM.out.below hBL)
            replace HL := Lib.hid (HL.out.below hBL)
            replace hB := bthen hB hBL
            clear m0 m1
            have m0 := below_cell hBL M0.out
            have m1 := below_cell hBL M1.out
            have m2 := below_cell hBL M2.out
            have bx0 := hX.c0
            have bx1 := hX.c1
            have bx2 := hX.c2
            have by0 := hY.c0
            have by1 := hY.c1
            have by2 := hY.c2
            have hlt_bx0 := hX.lt
            have hlt_by0 := hY.lt
            have nk0 : 0 ≤ n * k := Int.mul_nonneg bn0 (by omega)
            have nk1 : n * k ≤ 7340032000 := by have := Int.mul_le_mul bn1 k2 (by omega) (by omega); omega
            have nkw : IntKind.i64.wrap (n * k) = n * k := by rw [IntKind.wrap_i64]; omega
            have wk0 : 0 ≤ width * k := Int.mul_nonneg h0' (by omega)
            have wk1 : width * k ≤ 16777216000 := by have := Int.mul_le_mul h1' k2 (by omega) (by omega); omega
            have wkw : IntKind.i64.wrap (width * k) = width * k := by rw [IntKind.wrap_i64]; omega
            have kc0 : 0 ≤ k * c := Int.mul_nonneg (by omega) bc0
            have kc1 : k * c ≤ 120000000 := by have := Int.mul_le_mul_of_nonneg_left bc1 (show 0 ≤ k by omega); omega
            have kcw : IntKind.i64.wrap (k * c) = k * c := by rw [IntKind.wrap_i64]; omega
            have kp0 : -120000000 ≤ k * p := by have := Int.mul_le_mul_of_nonneg_left bp0 (show 0 ≤ k by omega); omega
            have kp1 : k * p ≤ 120000000 := by have := Int.mul_le_mul_of_nonneg_left bp1 (show 0 ≤ k by omega); omega
            have kpw : IntKind.i64.wrap (k * p) = k * p := by rw [IntKind.wrap_i64]; omega
            clear hX hY hox hoy hsep hKP hrx hry HKS HOS HRD1 HV1 M0 M1 M2 HIN HINO
            have hlt_m0' : w.heap.size < wr.heap.size := World.block_lt_of_cell? wr _ m0
            clear hlt_m0 hBL lX lY lX' lY' lXs lYs hss hsk hsz
            obtain ⟨w3, rfl⟩ : ∃ w3 : World, w3 = wr := ⟨_, rfl⟩
            have hlt_m0 := hlt_m0'
            clear hlt_m0'
            cases hwk : (wideM k m).ok with
            | false =>
              have HCW := Lib.hid (chkE_no hwk)
              clear hwk HWI
              cases hdk : (dearM k m).ok with
              | false =>
                have HCD := Lib.hid (chkE_no hdk)
                clear hdk HDE
                go_wp2_with fail
                refine (k_Best m _ a b width _ (by exact HM.out.below (Below.refl _ _))).mono ?_
                rintro e w4 ⟨v, rfl, hown, hb⟩
                rw [HB1.out] at hown ⊢
                have hbk : Below w3.heap.size w3 w4 := bthen (Below.refl _ _) hb
                replace m0 := below_cell hbk m0
                replace m1 := below_cell hbk m1
                replace m2 := below_cell hbk m2
                replace bx0 := below_cell hbk bx0
                replace bx1 := below_cell hbk bx1
                replace bx2 := below_cell hbk bx2
                replace by0 := below_cell hbk by0
                replace by1 := below_cell hbk by1
                replace by2 := below_cell hbk by2
                replace hlt_m0 : w.heap.size < w4.heap.size := World.block_lt_of_cell? w4 _ m0
                replace hlt_bx0 : X < w4.heap.size := World.block_lt_of_cell? w4 _ bx0
                replace hlt_by0 : Y < w4.heap.size := World.block_lt_of_cell? w4 _ by0
                replace HM := Lib.hid (HM.out.below hbk)
                replace HL := Lib.hid (HL.out.below hbk)
                replace HMX := Lib.hid (HMX.out.below hbk)
                replace HMY := Lib.hid (HMY.out.below hbk)
                replace hB := bthen hB hbk
                obtain ⟨Pa, Pc, rfl, P⟩ := own_rdI hown
                replace P := Lib.hid P
                clear hown
                clear hbk hb
                go_wp2_with fail
                refine (k_Width m _ l la lc a b _ (by exact HM.out.below (Below.refl _ _)) (by exact HL.out.below (Below.refl _ _)) hll).mono ?_
                rintro e w5 ⟨rfl, hb⟩
                rw [HW1.out]
                have hbk : Below w4.heap.size w4 w5 := bthen (Below.refl _ _) hb
                replace m0 := below_cell hbk m0
                replace m1 := below_cell hbk m1
                replace m2 := below_cell hbk m2
                replace bx0 := below_cell hbk bx0
                replace bx1 := below_cell hbk bx1
                replace bx2 := below_cell hbk bx2
                replace by0 := below_cell hbk by0
                replace by1 := below_cell hbk by1
                replace by2 := below_cell hbk by2
                replace hlt_m0 : w.heap.size < w5.heap.size := World.block_lt_of_cell? w5 _ m0
                replace hlt_bx0 : X < w5.heap.size := World.block_lt_of_cell? w5 _ bx0
                replace hlt_by0 : Y < w5.heap.size := World.block_lt_of_cell? w5 _ by0
                replace HM := Lib.hid (HM.out.below hbk)
                replace HL := Lib.hid (HL.out.below hbk)
                replace HMX := Lib.hid (HMX.out.below hbk)
                replace HMY := Lib.hid (HMY.out.below hbk)
                replace P := Lib.hid (P.out.below hbk)
                replace hB := bthen hB hbk
                clear hbk hb
                go_wp2_with fail
                refine (k_Check (wideM k m) _ _ (by exact HMX.out.below (Below.refl _ _))).mono ?_
                rintro e w6 ⟨rfl, hb⟩
                rw [HCW.out]
                have hbk : Below w5.heap.size w5 w6 := bthen (Below.refl _ _) hb
                replace m0 := below_cell hbk m0
                replace m1 := below_cell hbk m1
                replace m2 := below_cell hbk m2
                replace bx0 := below_cell hbk bx0
                replace bx1 := below_cell hbk bx1
                replace bx2 := below_cell hbk bx2
                replace by0 := below_cell hbk by0
                replace by1 := below_cell hbk by1
                replace by2 := below_cell hbk by2
                replace hlt_m0 : w.heap.size < w6.heap.size := World.block_lt_of_cell? w6 _ m0
                replace hlt_bx0 : X < w6.heap.size := World.block_lt_of_cell? w6 _ bx0
                replace hlt_by0 : Y < w6.heap.size := World.block_lt_of_cell? w6 _ by0
                replace HM := Lib.hid (HM.out.below hbk)
                replace HL := Lib.hid (HL.out.below hbk)
                replace HMX := Lib.hid (HMX.out.below hbk)
                replace HMY := Lib.hid (HMY.out.below hbk)
                replace P := Lib.hid (P.out.below hbk)
                replace hB := bthen hB hbk
                clear hbk hb
                go_wp2_with fail
                refine (k_Check (dearM k m) _ _ (by exact HMY.out.below (Below.refl _ _))).mono ?_
                rintro e w7 ⟨rfl, hb⟩
                rw [HCD.out]
                have hbk : Below w6.heap.size w6 w7 := bthen (Below.refl _ _) hb
                replace m0 := below_cell hbk m0
                replace m1 := below_cell hbk m1
                replace m2 := below_cell hbk m2
                replace bx0 := below_cell hbk bx0
                replace bx1 := below_cell hbk bx1
                replace bx2 := below_cell hbk bx2
                replace by0 := below_cell hbk by0
                replace by1 := below_cell hbk by1
                replace by2 := below_cell hbk by2
                replace hlt_m0 : w.heap.size < w7.heap.size := World.block_lt_of_cell? w7 _ m0
                replace hlt_bx0 : X < w7.heap.size := World.block_lt_of_cell? w7 _ bx0
                replace hlt_by0 : Y < w7.heap.size := World.block_lt_of_cell? w7 _ by0
                replace HM := Lib.hid (HM.out.below hbk)
                replace HL := Lib.hid (HL.out.below hbk)
                replace HMX := Lib.hid (HMX.out.below hbk)
                replace HMY := Lib.hid (HMY.out.below hbk)
                replace P := Lib.hid (P.out.below hbk)
                replace hB := bthen hB hbk
                clear hbk hb
                go_wp2
                go_ret
                exact ⟨rfl, hB⟩
              | true =>
                obtain ⟨g3, g4, g5⟩ := HDE.out hdk
                have HCD := Lib.hid (show chkE (dearM k m) = 0 from by simp [chkE, hdk])
                have HB3 := Lib.hid g3
                have HC2 := Lib.hid g4
                have HP2 := Lib.hid g5
                clear hdk HDE g3 g4 g5
                go_wp2_with fail
                refine (k_Best m _ a b width _ (by exact HM.out.below (Below.refl _ _))).mono ?_
                rintro e w4 ⟨v, rfl, hown, hb⟩
                rw [HB1.out] at hown ⊢
                have hbk : Below w3.heap.size w3 w4 := bthen (Below.refl _ _) hb
                replace m0 := below_cell hbk m0
                replace m1 := below_cell hbk m1
                replace m2 := below_cell hbk m2
                replace bx0 := below_cell hbk bx0
                replace bx1 := below_cell hbk bx1
                replace bx2 := below_cell hbk bx2
                replace by0 := below_cell hbk by0
                replace by1 := below_cell hbk by1
                replace by2 := below_cell hbk by2
                replace hlt_m0 : w.heap.size < w4.heap.size := World.block_lt_of_cell? w4 _ m0
                replace hlt_bx0 : X < w4.heap.size := World.block_lt_of_cell? w4 _ bx0
                replace hlt_by0 : Y < w4.heap.size := World.block_lt_of_cell? w4 _ by0
                replace HM := Lib.hid (HM.out.below hbk)
                replace HL := Lib.hid (HL.out.below hbk)
                replace HMX := Lib.hid (HMX.out.below hbk)
                replace HMY := Lib.hid (HMY.out.below hbk)
                replace hB := bthen hB hbk
                obtain ⟨Pa, Pc, rfl, P⟩ := own_rdI hown
                replace P := Lib.hid P
                clear hown
                clear hbk hb
                go_wp2_with fail
                refine (k_Width m _ l la lc a b _ (by exact HM.out.below (Below.refl _ _)) (by exact HL.out.below (Below.refl _ _)) hll).mono ?_
                rintro e w5 ⟨rfl, hb⟩
                rw [HW1.out]
                have hbk : Below w4.heap.size w4 w5 := bthen (Below.refl _ _) hb
                replace m0 := below_cell hbk m0
                replace m1 := below_cell hbk m1
                replace m2 := below_cell hbk m2
                replace bx0 := below_cell hbk bx0
                replace bx1 := below_cell hbk bx1
                replace bx2 := below_cell hbk bx2
                replace by0 := below_cell hbk by0
                replace by1 := below_cell hbk by1
                replace by2 := below_cell hbk by2
                replace hlt_m0 : w.heap.size < w5.heap.size := World.block_lt_of_cell? w5 _ m0
                replace hlt_bx0 : X < w5.heap.size := World.block_lt_of_cell? w5 _ bx0
                replace hlt_by0 : Y < w5.heap.size := World.block_lt_of_cell? w5 _ by0
                replace HM := Lib.hid (HM.out.below hbk)
                replace HL := Lib.hid (HL.out.below hbk)
                replace HMX := Lib.hid (HMX.out.below hbk)
                replace HMY := Lib.hid (HMY.out.below hbk)
                replace P := Lib.hid (P.out.below hbk)
                replace hB := bthen hB hbk
                clear hbk hb
                go_wp2_with fail
                refine (k_Check (wideM k m) _ _ (by exact HMX.out.below (Below.refl _ _))).mono ?_
                rintro e w6 ⟨rfl, hb⟩
                rw [HCW.out]
                have hbk : Below w5.heap.size w5 w6 := bthen (Below.refl _ _) hb
                replace m0 := below_cell hbk m0
                replace m1 := below_cell hbk m1
                replace m2 := below_cell hbk m2
                replace bx0 := below_cell hbk bx0
                replace bx1 := below_cell hbk bx1
                replace bx2 := below_cell hbk bx2
                replace by0 := below_cell hbk by0
                replace by1 := below_cell hbk by1
                replace by2 := below_cell hbk by2
                replace hlt_m0 : w.heap.size < w6.heap.size := World.block_lt_of_cell? w6 _ m0
                replace hlt_bx0 : X < w6.heap.size := World.block_lt_of_cell? w6 _ bx0
                replace hlt_by0 : Y < w6.heap.size := World.block_lt_of_cell? w6 _ by0
                replace HM := Lib.hid (HM.out.below hbk)
                replace HL := Lib.hid (HL.out.below hbk)
                replace HMX := Lib.hid (HMX.out.below hbk)
                replace HMY := Lib.hid (HMY.out.below hbk)
                replace P := Lib.hid (P.out.below hbk)
                replace hB := bthen hB hbk
                clear hbk hb
                go_wp2_with fail
                refine (k_Check (dearM k m) _ _ (by exact HMY.out.below (Below.refl _ _))).mono ?_
                rintro e w7 ⟨rfl, hb⟩
                rw [HCD.out]
                have hbk : Below w6.heap.size w6 w7 := bthen (Below.refl _ _) hb
                replace m0 := below_cell hbk m0
                replace m1 := below_cell hbk m1
                replace m2 := below_cell hbk m2
                replace bx0 := below_cell hbk bx0
                replace bx1 := below_cell hbk bx1
                replace bx2 := below_cell hbk bx2
                replace by0 := below_cell hbk by0
                replace by1 := below_cell hbk by1
                replace by2 := below_cell hbk by2
                replace hlt_m0 : w.heap.size < w7.heap.size := World.block_lt_of_cell? w7 _ m0
                replace hlt_bx0 : X < w7.heap.size := World.block_lt_of_cell? w7 _ bx0
                replace hlt_by0 : Y < w7.heap.size := World.block_lt_of_cell? w7 _ by0
                replace HM := Lib.hid (HM.out.below hbk)
                replace HL := Lib.hid (HL.out.below hbk)
                replace HMX := Lib.hid (HMX.out.below hbk)
                replace HMY := Lib.hid (HMY.out.below hbk)
                replace P := Lib.hid (P.out.below hbk)
                replace hB := bthen hB hbk
                clear hbk hb
                go_wp2_with fail
                refine (r_Check (dearM k m) _ _ (by exact HMY.out.below (Below.refl _ _))).mono ?_
                rintro e w8 ⟨rfl, hb⟩
                rw [HCD.out]
                have hbk : Below w7.heap.size w7 w8 := bthen (Below.refl _ _) hb
                replace m0 := below_cell hbk m0
                replace m1 := below_cell hbk m1
                replace m2 := below_cell hbk m2
                replace bx0 := below_cell hbk bx0
                replace bx1 := below_cell hbk bx1
                replace bx2 := below_cell hbk bx2
                replace by0 := below_cell hbk by0
                replace by1 := below_cell hbk by1
                replace by2 := below_cell hbk by2
                replace hlt_m0 : w.heap.size < w8.heap.size := World.block_lt_of_cell? w8 _ m0
                replace hlt_bx0 : X < w8.heap.size := World.block_lt_of_cell? w8 _ bx0
                replace hlt_by0 : Y < w8.heap.size := World.block_lt_of_cell? w8 _ by0
                replace HM := Lib.hid (HM.out.below hbk)
                replace HL := Lib.hid (HL.out.below hbk)
                replace HMX := Lib.hid (HMX.out.below hbk)
                replace HMY := Lib.hid (HMY.out.below hbk)
                replace P := Lib.hid (P.out.below hbk)
                replace hB := bthen hB hbk
                clear hbk hb
                go_wp2_with fail
                refine (k_Best (dearM k m) _ a b width _ (by exact HMY.out.below (Below.refl _ _))).mono ?_
                rintro e w9 ⟨v, rfl, hown, hb⟩
                rw [HB3.out] at hown ⊢
                have hbk : Below w8.heap.size w8 w9 := bthen (Below.refl _ _) hb
                replace m0 := below_cell hbk m0
                replace m1 := below_cell hbk m1
                replace m2 := below_cell hbk m2
                replace bx0 := below_cell hbk bx0
                replace bx1 := below_cell hbk bx1
                replace bx2 := below_cell hbk bx2
                replace by0 := below_cell hbk by0
                replace by1 := below_cell hbk by1
                replace by2 := below_cell hbk by2
                replace hlt_m0 : w.heap.size < w9.heap.size := World.block_lt_of_cell? w9 _ m0
                replace hlt_bx0 : X < w9.heap.size := World.block_lt_of_cell? w9 _ bx0
                replace hlt_by0 : Y < w9.heap.size := World.block_lt_of_cell? w9 _ by0
                replace HM := Lib.hid (HM.out.below hbk)
                replace HL := Lib.hid (HL.out.below hbk)
                replace HMX := Lib.hid (HMX.out.below hbk)
                replace HMY := Lib.hid (HMY.out.below hbk)
                replace P := Lib.hid (P.out.below hbk)
                replace hB := bthen hB hbk
                obtain ⟨Ra, Rc, rfl, R⟩ := own_rdI hown
                replace R := Lib.hid R
                clear hown
                clear hbk hb
                go_wp2_with fail
                refine (k_Cost m _ bl _ _ _ (by exact HM.out.below (Below.refl _ _)) (by exact P.out.below (Below.refl _ _)) lbl).mono ?_
                rintro e w10 ⟨rfl, hb⟩
                rw [HC1.out]
                have hbk : Below w9.heap.size w9 w10 := bthen (Below.refl _ _) hb
                replace m0 := below_cell hbk m0
                replace m1 := below_cell hbk m1
                replace m2 := below_cell hbk m2
                replace bx0 := below_cell hbk bx0
                replace bx1 := below_cell hbk bx1
                replace bx2 := below_cell hbk bx2
                replace by0 := below_cell hbk by0
                replace by1 := below_cell hbk by1
                replace by2 := below_cell hbk by2
                replace hlt_m0 : w.heap.size < w10.heap.size := World.block_lt_of_cell? w10 _ m0
                replace hlt_bx0 : X < w10.heap.size := World.block_lt_of_cell? w10 _ bx0
                replace hlt_by0 : Y < w10.heap.size := World.block_lt_of_cell? w10 _ by0
                replace HM := Lib.hid (HM.out.below hbk)
                replace HL := Lib.hid (HL.out.below hbk)
                replace HMX := Lib.hid (HMX.out.below hbk)
                replace HMY := Lib.hid (HMY.out.below hbk)
                replace P := Lib.hid (P.out.below hbk)
                replace R := Lib.hid (R.out.below hbk)
                replace hB := bthen hB hbk
                clear hbk hb
                go_wp2_with fail
                refine (k_Cost (dearM k m) _ bl _ _ _ (by exact HMY.out.below (Below.refl _ _)) (by exact P.out.below (Below.refl _ _)) lbl).mono ?_
                rintro e w11 ⟨rfl, hb⟩
                rw [HC2.out]
                have hbk : Below w10.heap.size w10 w11 := bthen (Below.refl _ _) hb
                replace m0 := below_cell hbk m0
                replace m1 := below_cell hbk m1
                replace m2 := below_cell hbk m2
                replace bx0 := below_cell hbk bx0
                replace bx1 := below_cell hbk bx1
                replace bx2 := below_cell hbk bx2
                replace by0 := below_cell hbk by0
                replace by1 := below_cell hbk by1
                replace by2 := below_cell hbk by2
                replace hlt_m0 : w.heap.size < w11.heap.size := World.block_lt_of_cell? w11 _ m0
                replace hlt_bx0 : X < w11.heap.size := World.block_lt_of_cell? w11 _ bx0
                replace hlt_by0 : Y < w11.heap.size := World.block_lt_of_cell? w11 _ by0
                replace HM := Lib.hid (HM.out.below hbk)
                replace HL := Lib.hid (HL.out.below hbk)
                replace HMX := Lib.hid (HMX.out.below hbk)
                replace HMY := Lib.hid (HMY.out.below hbk)
                replace P := Lib.hid (P.out.below hbk)
                replace R := Lib.hid (R.out.below hbk)
                replace hB := bthen hB hbk
                clear hbk hb
                go_wp2_with fail
                refine (k_Price m _ a b width (x : Int) _ (by exact HM.out.below (Below.refl _ _))).mono ?_
                rintro e w12 ⟨rfl, hb⟩
                rw [HP1.out]
                have hbk : Below w11.heap.size w11 w12 := bthen (Below.refl _ _) hb
                replace m0 := below_cell hbk m0
                replace m1 := below_cell hbk m1
                replace m2 := below_cell hbk m2
                replace bx0 := below_cell hbk bx0
                replace bx1 := below_cell hbk bx1
                replace bx2 := below_cell hbk bx2
                replace by0 := below_cell hbk by0
                replace by1 := below_cell hbk by1
                replace by2 := below_cell hbk by2
                replace hlt_m0 : w.heap.size < w12.heap.size := World.block_lt_of_cell? w12 _ m0
                replace hlt_bx0 : X < w12.heap.size := World.block_lt_of_cell? w12 _ bx0
                replace hlt_by0 : Y < w12.heap.size := World.block_lt_of_cell? w12 _ by0
                replace HM := Lib.hid (HM.out.below hbk)
                replace HL := Lib.hid (HL.out.below hbk)
                replace HMX := Lib.hid (HMX.out.below hbk)
                replace HMY := Lib.hid (HMY.out.below hbk)
                replace P := Lib.hid (P.out.below hbk)
                replace R := Lib.hid (R.out.below hbk)
                replace hB := bthen hB hbk
                clear hbk hb
                go_wp2_with fail
                refine (k_Price (dearM k m) _ a b width (x : Int) _ (by exact HMY.out.below (Below.refl _ _))).mono ?_
                rintro e w13 ⟨rfl, hb⟩
                rw [HP2.out]
                have hbk : Below w12.heap.size w12 w13 := bthen (Below.refl _ _) hb
                replace m0 := below_cell hbk m0
                replace m1 := below_cell hbk m1
                replace m2 := below_cell hbk m2
                replace bx0 := below_cell hbk bx0
                replace bx1 := below_cell hbk bx1
                replace bx2 := below_cell hbk bx2
                replace by0 := below_cell hbk by0
                replace by1 := below_cell hbk by1
                replace by2 := below_cell hbk by2
                replace hlt_m0 : w.heap.size < w13.heap.size := World.block_lt_of_cell? w13 _ m0
                replace hlt_bx0 : X < w13.heap.size := World.block_lt_of_cell? w13 _ bx0
                replace hlt_by0 : Y < w13.heap.size := World.block_lt_of_cell? w13 _ by0
                replace HM := Lib.hid (HM.out.below hbk)
                replace HL := Lib.hid (HL.out.below hbk)
                replace HMX := Lib.hid (HMX.out.below hbk)
                replace HMY := Lib.hid (HMY.out.below hbk)
                replace P := Lib.hid (P.out.below hbk)
                replace R := Lib.hid (R.out.below hbk)
                replace hB := bthen hB hbk
                clear hbk hb
                go_wp2_with fail
                refine (c_Equal bl bl _ _ _ _ _ _ true _ rfl rfl (by simp) (by exact R.out.below (Below.refl _ _)) (by exact P.out.below (Below.refl _ _)) lbl lbl).mono ?_
                rintro e w14 ⟨rfl, hb⟩
                have hbk : Below w13.heap.size w13 w14 := bthen (Below.refl _ _) hb
                replace m0 := below_cell hbk m0
                replace m1 := below_cell hbk m1
                replace m2 := below_cell hbk m2
                replace bx0 := below_cell hbk bx0
                replace bx1 := below_cell hbk bx1
                replace bx2 := below_cell hbk bx2
                replace by0 := below_cell hbk by0
                replace by1 := below_cell hbk by1
                replace by2 := below_cell hbk by2
                replace hlt_m0 : w.heap.size < w14.heap.size := World.block_lt_of_cell? w14 _ m0
                replace hlt_bx0 : X < w14.heap.size := World.block_lt_of_cell? w14 _ bx0
                replace hlt_by0 : Y < w14.heap.size := World.block_lt_of_cell? w14 _ by0
                replace HM := Lib.hid (HM.out.below hbk)
                replace HL := Lib.hid (HL.out.below hbk)
                replace HMX := Lib.hid (HMX.out.below hbk)
                replace HMY := Lib.hid (HMY.out.below hbk)
                replace P := Lib.hid (P.out.below hbk)
                replace R := Lib.hid (R.out.below hbk)
                replace hB := bthen hB hbk
                clear hbk hb
                clear R
                go_wp2
                go_ret
                exact ⟨rfl, hB⟩
            | true =>
              obtain ⟨g1, g2⟩ := HWI.out hwk
              have HCW := Lib.hid (show chkE (wideM k m) = 0 from by simp [chkE, hwk])
              have HW2 := Lib.hid g1
              clear hwk HWI g1
              by_cases hs : width * k ≤ 16777216
              · have HB2 := Lib.hid (g2 hs)
                clear g2
                cases hdk : (dearM k m).ok with
                | false =>
                  have HCD := Lib.hid (chkE_no hdk)
                  clear hdk HDE
                  go_wp2_with fail
                  refine (k_Best m _ a b width _ (by exact HM.out.below (Below.refl _ _))).mono ?_
                  rintro e w4 ⟨v, rfl, hown, hb⟩
                  rw [HB1.out] at hown ⊢
                  have hbk : Below w3.heap.size w3 w4 := bthen (Below.refl _ _) hb
                  replace m0 := below_cell hbk m0
                  replace m1 := below_cell hbk m1
                  replace m2 := below_cell hbk m2
                  replace bx0 := below_cell hbk bx0
                  replace bx1 := below_cell hbk bx1
                  replace bx2 := below_cell hbk bx2
                  replace by0 := below_cell hbk by0
                  replace by1 := below_cell hbk by1
                  replace by2 := below_cell hbk by2
                  replace hlt_m0 : w.heap.size < w4.heap.size := World.block_lt_of_cell? w4 _ m0
                  replace hlt_bx0 : X < w4.heap.size := World.block_lt_of_cell? w4 _ bx0
                  replace hlt_by0 : Y < w4.heap.size := World.block_lt_of_cell? w4 _ by0
                  replace HM := Lib.hid (HM.out.below hbk)
                  replace HL := Lib.hid (HL.out.below hbk)
                  replace HMX := Lib.hid (HMX.out.below hbk)
                  replace HMY := Lib.hid (HMY.out.below hbk)
                  replace hB := bthen hB hbk
                  obtain ⟨Pa, Pc, rfl, P⟩ := own_rdI hown
                  replace P := Lib.hid P
                  clear hown
                  clear hbk hb
                  go_wp2_with fail
                  refine (k_Width m _ l la lc a b _ (by exact HM.out.below (Below.refl _ _)) (by exact HL.out.below (Below.refl _ _)) hll).mono ?_
                  rintro e w5 ⟨rfl, hb⟩
                  rw [HW1.out]
                  have hbk : Below w4.heap.size w4 w5 := bthen (Below.refl _ _) hb
                  replace m0 := below_cell hbk m0
                  replace m1 := below_cell hbk m1
                  replace m2 := below_cell hbk m2
                  replace bx0 := below_cell hbk bx0
                  replace bx1 := below_cell hbk bx1
                  replace bx2 := below_cell hbk bx2
                  replace by0 := below_cell hbk by0
                  replace by1 := below_cell hbk by1
                  replace by2 := below_cell hbk by2
                  replace hlt_m0 : w.heap.size < w5.heap.size := World.block_lt_of_cell? w5 _ m0
                  replace hlt_bx0 : X < w5.heap.size := World.block_lt_of_cell? w5 _ bx0
                  replace hlt_by0 : Y < w5.heap.size := World.block_lt_of_cell? w5 _ by0
                  replace HM := Lib.hid (HM.out.below hbk)
                  replace HL := Lib.hid (HL.out.below hbk)
                  replace HMX := Lib.hid (HMX.out.below hbk)
                  replace HMY := Lib.hid (HMY.out.below hbk)
                  replace P := Lib.hid (P.out.below hbk)
                  replace hB := bthen hB hbk
                  clear hbk hb
                  go_wp2_with fail
                  refine (k_Check (wideM k m) _ _ (by exact HMX.out.below (Below.refl _ _))).mono ?_
                  rintro e w6 ⟨rfl, hb⟩
                  rw [HCW.out]
                  have hbk : Below w5.heap.size w5 w6 := bthen (Below.refl _ _) hb
                  replace m0 := below_cell hbk m0
                  replace m1 := below_cell hbk m1
                  replace m2 := below_cell hbk m2
                  replace bx0 := below_cell hbk bx0
                  replace bx1 := below_cell hbk bx1
                  replace bx2 := below_cell hbk bx2
                  replace by0 := below_cell hbk by0
                  replace by1 := below_cell hbk by1
                  replace by2 := below_cell hbk by2
                  replace hlt_m0 : w.heap.size < w6.heap.size := World.block_lt_of_cell? w6 _ m0
                  replace hlt_bx0 : X < w6.heap.size := World.block_lt_of_cell? w6 _ bx0
                  replace hlt_by0 : Y < w6.heap.size := World.block_lt_of_cell? w6 _ by0
                  replace HM := Lib.hid (HM.out.below hbk)
                  replace HL := Lib.hid (HL.out.below hbk)
                  replace HMX := Lib.hid (HMX.out.below hbk)
                  replace HMY := Lib.hid (HMY.out.below hbk)
                  replace P := Lib.hid (P.out.below hbk)
                  replace hB := bthen hB hbk
                  clear hbk hb
                  go_wp2_with fail
                  refine (r_Check (wideM k m) _ _ (by exact HMX.out.below (Below.refl _ _))).mono ?_
                  rintro e w7 ⟨rfl, hb⟩
                  rw [HCW.out]
                  have hbk : Below w6.heap.size w6 w7 := bthen (Below.refl _ _) hb
                  replace m0 := below_cell hbk m0
                  replace m1 := below_cell hbk m1
                  replace m2 := below_cell hbk m2
                  replace bx0 := below_cell hbk bx0
                  replace bx1 := below_cell hbk bx1
                  replace bx2 := below_cell hbk bx2
                  replace by0 := below_cell hbk by0
                  replace by1 := below_cell hbk by1
                  replace by2 := below_cell hbk by2
                  replace hlt_m0 : w.heap.size < w7.heap.size := World.block_lt_of_cell? w7 _ m0
                  replace hlt_bx0 : X < w7.heap.size := World.block_lt_of_cell? w7 _ bx0
                  replace hlt_by0 : Y < w7.heap.size := World.block_lt_of_cell? w7 _ by0
                  replace HM := Lib.hid (HM.out.below hbk)
                  replace HL := Lib.hid (HL.out.below hbk)
                  replace HMX := Lib.hid (HMX.out.below hbk)
                  replace HMY := Lib.hid (HMY.out.below hbk)
                  replace P := Lib.hid (P.out.below hbk)
                  replace hB := bthen hB hbk
                  clear hbk hb
                  go_wp2_with fail
                  refine (k_Width (wideM k m) _ l la lc a b _ (by exact HMX.out.below (Below.refl _ _)) (by exact HL.out.below (Below.refl _ _)) hll).mono ?_
                  rintro e w8 ⟨rfl, hb⟩
                  rw [HW2.out]
                  have hbk : Below w7.heap.size w7 w8 := bthen (Below.refl _ _) hb
                  replace m0 := below_cell hbk m0
                  replace m1 := below_cell hbk m1
                  replace m2 := below_cell hbk m2
                  replace bx0 := below_cell hbk bx0
                  replace bx1 := below_cell hbk bx1
                  replace bx2 := below_cell hbk bx2
                  replace by0 := below_cell hbk by0
                  replace by1 := below_cell hbk by1
                  replace by2 := below_cell hbk by2
                  replace hlt_m0 : w.heap.size < w8.heap.size := World.block_lt_of_cell? w8 _ m0
                  replace hlt_bx0 : X < w8.heap.size := World.block_lt_of_cell? w8 _ bx0
                  replace hlt_by0 : Y < w8.heap.size := World.block_lt_of_cell? w8 _ by0
                  replace HM := Lib.hid (HM.out.below hbk)
                  replace HL := Lib.hid (HL.out.below hbk)
                  replace HMX := Lib.hid (HMX.out.below hbk)
                  replace HMY := Lib.hid (HMY.out.below hbk)
                  replace P := Lib.hid (P.out.below hbk)
                  replace hB := bthen hB hbk
                  clear hbk hb
                  go_wp2_with fail
                  refine (k_Best (wideM k m) _ a b (width * k) _ (by exact HMX.out.below (Below.refl _ _))).mono ?_
                  rintro e w9 ⟨v, rfl, hown, hb⟩
                  rw [HB2.out] at hown ⊢
                  have hbk : Below w8.heap.size w8 w9 := bthen (Below.refl _ _) hb
                  replace m0 := below_cell hbk m0
                  replace m1 := below_cell hbk m1
                  replace m2 := below_cell hbk m2
                  replace bx0 := below_cell hbk bx0
                  replace bx1 := below_cell hbk bx1
                  replace bx2 := below_cell hbk bx2
                  replace by0 := below_cell hbk by0
                  replace by1 := below_cell hbk by1
                  replace by2 := below_cell hbk by2
                  replace hlt_m0 : w.heap.size < w9.heap.size := World.block_lt_of_cell? w9 _ m0
                  replace hlt_bx0 : X < w9.heap.size := World.block_lt_of_cell? w9 _ bx0
                  replace hlt_by0 : Y < w9.heap.size := World.block_lt_of_cell? w9 _ by0
                  replace HM := Lib.hid (HM.out.below hbk)
                  replace HL := Lib.hid (HL.out.below hbk)
                  replace HMX := Lib.hid (HMX.out.below hbk)
                  replace HMY := Lib.hid (HMY.out.below hbk)
                  replace P := Lib.hid (P.out.below hbk)
                  replace hB := bthen hB hbk
                  obtain ⟨Qa, Qc, rfl, Q⟩ := own_rdI hown
                  replace Q := Lib.hid Q
                  clear hown
                  clear hbk hb
                  go_wp2_with fail
                  refine (c_Equal bl bl _ _ _ _ _ _ true _ rfl rfl (by simp) (by exact Q.out.below (Below.refl _ _)) (by exact P.out.below (Below.refl _ _)) lbl lbl).mono ?_
                  rintro e w10 ⟨rfl, hb⟩
                  have hbk : Below w9.heap.size w9 w10 := bthen (Below.refl _ _) hb
                  replace m0 := below_cell hbk m0
                  replace m1 := below_cell hbk m1
                  replace m2 := below_cell hbk m2
                  replace bx0 := below_cell hbk bx0
                  replace bx1 := below_cell hbk bx1
                  replace bx2 := below_cell hbk bx2
                  replace by0 := below_cell hbk by0
                  replace by1 := below_cell hbk by1
                  replace by2 := below_cell hbk by2
                  replace hlt_m0 : w.heap.size < w10.heap.size := World.block_lt_of_cell? w10 _ m0
                  replace hlt_bx0 : X < w10.heap.size := World.block_lt_of_cell? w10 _ bx0
                  replace hlt_by0 : Y < w10.heap.size := World.block_lt_of_cell? w10 _ by0
                  replace HM := Lib.hid (HM.out.below hbk)
                  replace HL := Lib.hid (HL.out.below hbk)
                  replace HMX := Lib.hid (HMX.out.below hbk)
                  replace HMY := Lib.hid (HMY.out.below hbk)
                  replace P := Lib.hid (P.out.below hbk)
                  replace Q := Lib.hid (Q.out.below hbk)
                  replace hB := bthen hB hbk
                  clear hbk hb
                  clear Q
                  go_wp2_with fail
                  refine (k_Check (dearM k m) _ _ (by exact HMY.out.below (Below.refl _ _))).mono ?_
                  rintro e w11 ⟨rfl, hb⟩
                  rw [HCD.out]
                  have hbk : Below w10.heap.size w10 w11 := bthen (Below.refl _ _) hb
                  replace m0 := below_cell hbk m0
                  replace m1 := below_cell hbk m1
                  replace m2 := below_cell hbk m2
                  replace bx0 := below_cell hbk bx0
                  replace bx1 := below_cell hbk bx1
                  replace bx2 := below_cell hbk bx2
                  replace by0 := below_cell hbk by0
                  replace by1 := below_cell hbk by1
                  replace by2 := below_cell hbk by2
                  replace hlt_m0 : w.heap.size < w11.heap.size := World.block_lt_of_cell? w11 _ m0
                  replace hlt_bx0 : X < w11.heap.size := World.block_lt_of_cell? w11 _ bx0
                  replace hlt_by0 : Y < w11.heap.size := World.block_lt_of_cell? w11 _ by0
                  replace HM := Lib.hid (HM.out.below hbk)
                  replace HL := Lib.hid (HL.out.below hbk)
                  replace HMX := Lib.hid (HMX.out.below hbk)
                  replace HMY := Lib.hid (HMY.out.below hbk)
                  replace P := Lib.hid (P.out.below hbk)
                  replace hB := bthen hB hbk
                  clear hbk hb
                  go_wp2
                  go_ret
                  exact ⟨rfl, hB⟩
                | true =>
                  obtain ⟨g3, g4, g5⟩ := HDE.out hdk
                  have HCD := Lib.hid (show chkE (dearM k m) = 0 from by simp [chkE, hdk])
                  have HB3 := Lib.hid g3
                  have HC2 := Lib.hid g4
                  have HP2 := Lib.hid g5
                  clear hdk HDE g3 g4 g5
                  go_wp2_with fail
                  refine (k_Best m _ a b width _ (by exact HM.out.below (Below.refl _ _))).mono ?_
                  rintro e w4 ⟨v, rfl, hown, hb⟩
                  rw [HB1.out] at hown ⊢
                  have hbk : Below w3.heap.size w3 w4 := bthen (Below.refl _ _) hb
                  replace m0 := below_cell hbk m0
                  replace m1 := below_cell hbk m1
                  replace m2 := below_cell hbk m2
                  replace bx0 := below_cell hbk bx0
                  replace bx1 := below_cell hbk bx1
                  replace bx2 := below_cell hbk bx2
                  replace by0 := below_cell hbk by0
                  replace by1 := below_cell hbk by1
                  replace by2 := below_cell hbk by2
                  replace hlt_m0 : w.heap.size < w4.heap.size := World.block_lt_of_cell? w4 _ m0
                  replace hlt_bx0 : X < w4.heap.size := World.block_lt_of_cell? w4 _ bx0
                  replace hlt_by0 : Y < w4.heap.size := World.block_lt_of_cell? w4 _ by0
                  replace HM := Lib.hid (HM.out.below hbk)
                  replace HL := Lib.hid (HL.out.below hbk)
                  replace HMX := Lib.hid (HMX.out.below hbk)
                  replace HMY := Lib.hid (HMY.out.below hbk)
                  replace hB := bthen hB hbk
                  obtain ⟨Pa, Pc, rfl, P⟩ := own_rdI hown
                  replace P := Lib.hid P
                  clear hown
                  clear hbk hb
                  go_wp2_with fail
                  refine (k_Width m _ l la lc a b _ (by exact HM.out.below (Below.refl _ _)) (by exact HL.out.below (Below.refl _ _)) hll).mono ?_
                  rintro e w5 ⟨rfl, hb⟩
                  rw [HW1.out]
                  have hbk : Below w4.heap.size w4 w5 := bthen (Below.refl _ _) hb
                  replace m0 := below_cell hbk m0
                  replace m1 := below_cell hbk m1
                  replace m2 := below_cell hbk m2
                  replace bx0 := below_cell hbk bx0
                  replace bx1 := below_cell hbk bx1
                  replace bx2 := below_cell hbk bx2
                  replace by0 := below_cell hbk by0
                  replace by1 := below_cell hbk by1
                  replace by2 := below_cell hbk by2
                  replace hlt_m0 : w.heap.size < w5.heap.size := World.block_lt_of_cell? w5 _ m0
                  replace hlt_bx0 : X < w5.heap.size := World.block_lt_of_cell? w5 _ bx0
                  replace hlt_by0 : Y < w5.heap.size := World.block_lt_of_cell? w5 _ by0
                  replace HM := Lib.hid (HM.out.below hbk)
                  replace HL := Lib.hid (HL.out.below hbk)
                  replace HMX := Lib.hid (HMX.out.below hbk)
                  replace HMY := Lib.hid (HMY.out.below hbk)
                  replace P := Lib.hid (P.out.below hbk)
                  replace hB := bthen hB hbk
                  clear hbk hb
                  go_wp2_with fail
                  refine (k_Check (wideM k m) _ _ (by exact HMX.out.below (Below.refl _ _))).mono ?_
                  rintro e w6 ⟨rfl, hb⟩
                  rw [HCW.out]
                  have hbk : Below w5.heap.size w5 w6 := bthen (Below.refl _ _) hb
                  replace m0 := below_cell hbk m0
                  replace m1 := below_cell hbk m1
                  replace m2 := below_cell hbk m2
                  replace bx0 := below_cell hbk bx0
                  replace bx1 := below_cell hbk bx1
                  replace bx2 := below_cell hbk bx2
                  replace by0 := below_cell hbk by0
                  replace by1 := below_cell hbk by1
                  replace by2 := below_cell hbk by2
                  replace hlt_m0 : w.heap.size < w6.heap.size := World.block_lt_of_cell? w6 _ m0
                  replace hlt_bx0 : X < w6.heap.size := World.block_lt_of_cell? w6 _ bx0
                  replace hlt_by0 : Y < w6.heap.size := World.block_lt_of_cell? w6 _ by0
                  replace HM := Lib.hid (HM.out.below hbk)
                  replace HL := Lib.hid (HL.out.below hbk)
                  replace HMX := Lib.hid (HMX.out.below hbk)
                  replace HMY := Lib.hid (HMY.out.below hbk)
                  replace P := Lib.hid (P.out.below hbk)
                  replace hB := bthen hB hbk
                  clear hbk hb
                  go_wp2_with fail
                  refine (r_Check (wideM k m) _ _ (by exact HMX.out.below (Below.refl _ _))).mono ?_
                  rintro e w7 ⟨rfl, hb⟩
                  rw [HCW.out]
                  have hbk : Below w6.heap.size w6 w7 := bthen (Below.refl _ _) hb
                  replace m0 := below_cell hbk m0
                  replace m1 := below_cell hbk m1
                  replace m2 := below_cell hbk m2
                  replace bx0 := below_cell hbk bx0
                  replace bx1 := below_cell hbk bx1
                  replace bx2 := below_cell hbk bx2
                  replace by0 := below_cell hbk by0
                  replace by1 := below_cell hbk by1
                  replace by2 := below_cell hbk by2
                  replace hlt_m0 : w.heap.size < w7.heap.size := World.block_lt_of_cell? w7 _ m0
                  replace hlt_bx0 : X < w7.heap.size := World.block_lt_of_cell? w7 _ bx0
                  replace hlt_by0 : Y < w7.heap.size := World.block_lt_of_cell? w7 _ by0
                  replace HM := Lib.hid (HM.out.below hbk)
                  replace HL := Lib.hid (HL.out.below hbk)
                  replace HMX := Lib.hid (HMX.out.below hbk)
                  replace HMY := Lib.hid (HMY.out.below hbk)
                  replace P := Lib.hid (P.out.below hbk)
                  replace hB := bthen hB hbk
                  clear hbk hb
                  go_wp2_with fail
                  refine (k_Width (wideM k m) _ l la lc a b _ (by exact HMX.out.below (Below.refl _ _)) (by exact HL.out.below (Below.refl _ _)) hll).mono ?_
                  rintro e w8 ⟨rfl, hb⟩
                  rw [HW2.out]
                  have hbk : Below w7.heap.size w7 w8 := bthen (Below.refl _ _) hb
                  replace m0 := below_cell hbk m0
                  replace m1 := below_cell hbk m1
                  replace m2 := below_cell hbk m2
                  replace bx0 := below_cell hbk bx0
                  replace bx1 := below_cell hbk bx1
                  replace bx2 := below_cell hbk bx2
                  replace by0 := below_cell hbk by0
                  replace by1 := below_cell hbk by1
                  replace by2 := below_cell hbk by2
                  replace hlt_m0 : w.heap.size < w8.heap.size := World.block_lt_of_cell? w8 _ m0
                  replace hlt_bx0 : X < w8.heap.size := World.block_lt_of_cell? w8 _ bx0
                  replace hlt_by0 : Y < w8.heap.size := World.block_lt_of_cell? w8 _ by0
                  replace HM := Lib.hid (HM.out.below hbk)
                  replace HL := Lib.hid (HL.out.below hbk)
                  replace HMX := Lib.hid (HMX.out.below hbk)
                  replace HMY := Lib.hid (HMY.out.below hbk)
                  replace P := Lib.hid (P.out.below hbk)
                  replace hB := bthen hB hbk
                  clear hbk hb
                  go_wp2_with fail
                  refine (k_Best (wideM k m) _ a b (width * k) _ (by exact HMX.out.below (Below.refl _ _))).mono ?_
                  rintro e w9 ⟨v, rfl, hown, hb⟩
                  rw [HB2.out] at hown ⊢
                  have hbk : Below w8.heap.size w8 w9 := bthen (Below.refl _ _) hb
                  replace m0 := below_cell hbk m0
                  replace m1 := below_cell hbk m1
                  replace m2 := below_cell hbk m2
                  replace bx0 := below_cell hbk bx0
                  replace bx1 := below_cell hbk bx1
                  replace bx2 := below_cell hbk bx2
                  replace by0 := below_cell hbk by0
                  replace by1 := below_cell hbk by1
                  replace by2 := below_cell hbk by2
                  replace hlt_m0 : w.heap.size < w9.heap.size := World.block_lt_of_cell? w9 _ m0
                  replace hlt_bx0 : X < w9.heap.size := World.block_lt_of_cell? w9 _ bx0
                  replace hlt_by0 : Y < w9.heap.size := World.block_lt_of_cell? w9 _ by0
                  replace HM := Lib.hid (HM.out.below hbk)
                  replace HL := Lib.hid (HL.out.below hbk)
                  replace HMX := Lib.hid (HMX.out.below hbk)
                  replace HMY := Lib.hid (HMY.out.below hbk)
                  replace P := Lib.hid (P.out.below hbk)
                  replace hB := bthen hB hbk
                  obtain ⟨Qa, Qc, rfl, Q⟩ := own_rdI hown
                  replace Q := Lib.hid Q
                  clear hown
                  clear hbk hb
                  go_wp2_with fail
                  refine (c_Equal bl bl _ _ _ _ _ _ true _ rfl rfl (by simp) (by exact Q.out.below (Below.refl _ _)) (by exact P.out.below (Below.refl _ _)) lbl lbl).mono ?_
                  rintro e w10 ⟨rfl, hb⟩
                  have hbk : Below w9.heap.size w9 w10 := bthen (Below.refl _ _) hb
                  replace m0 := below_cell hbk m0
                  replace m1 := below_cell hbk m1
                  replace m2 := below_cell hbk m2
                  replace bx0 := below_cell hbk bx0
                  replace bx1 := below_cell hbk bx1
                  replace bx2 := below_cell hbk bx2
                  replace by0 := below_cell hbk by0
                  replace by1 := below_cell hbk by1
                  replace by2 := below_cell hbk by2
                  replace hlt_m0 : w.heap.size < w10.heap.size := World.block_lt_of_cell? w10 _ m0
                  replace hlt_bx0 : X < w10.heap.size := World.block_lt_of_cell? w10 _ bx0
                  replace hlt_by0 : Y < w10.heap.size := World.block_lt_of_cell? w10 _ by0
                  replace HM := Lib.hid (HM.out.below hbk)
                  replace HL := Lib.hid (HL.out.below hbk)
                  replace HMX := Lib.hid (HMX.out.below hbk)
                  replace HMY := Lib.hid (HMY.out.below hbk)
                  replace P := Lib.hid (P.out.below hbk)
                  replace Q := Lib.hid (Q.out.below hbk)
                  replace hB := bthen hB hbk
                  clear hbk hb
                  clear Q
                  go_wp2_with fail
                  refine (k_Check (dearM k m) _ _ (by exact HMY.out.below (Below.refl _ _))).mono ?_
                  rintro e w11 ⟨rfl, hb⟩
                  rw [HCD.out]
                  have hbk : Below w10.heap.size w10 w11 := bthen (Below.refl _ _) hb
                  replace m0 := below_cell hbk m0
                  replace m1 := below_cell hbk m1
                  replace m2 := below_cell hbk m2
                  replace bx0 := below_cell hbk bx0
                  replace bx1 := below_cell hbk bx1
                  replace bx2 := below_cell hbk bx2
                  replace by0 := below_cell hbk by0
                  replace by1 := below_cell hbk by1
                  replace by2 := below_cell hbk by2
                  replace hlt_m0 : w.heap.size < w11.heap.size := World.block_lt_of_cell? w11 _ m0
                  replace hlt_bx0 : X < w11.heap.size := World.block_lt_of_cell? w11 _ bx0
                  replace hlt_by0 : Y < w11.heap.size := World.block_lt_of_cell? w11 _ by0
                  replace HM := Lib.hid (HM.out.below hbk)
                  replace HL := Lib.hid (HL.out.below hbk)
                  replace HMX := Lib.hid (HMX.out.below hbk)
                  replace HMY := Lib.hid (HMY.out.below hbk)
                  replace P := Lib.hid (P.out.below hbk)
                  replace hB := bthen hB hbk
                  clear hbk hb
                  go_wp2_with fail
                  refine (r_Check (dearM k m) _ _ (by exact HMY.out.below (Below.refl _ _))).mono ?_
                  rintro e w12 ⟨rfl, hb⟩
                  rw [HCD.out]
                  have hbk : Below w11.heap.size w11 w12 := bthen (Below.refl _ _) hb
                  replace m0 := below_cell hbk m0
                  replace m1 := below_cell hbk m1
                  replace m2 := below_cell hbk m2
                  replace bx0 := below_cell hbk bx0
                  replace bx1 := below_cell hbk bx1
                  replace bx2 := below_cell hbk bx2
                  replace by0 := below_cell hbk by0
                  replace by1 := below_cell hbk by1
                  replace by2 := below_cell hbk by2
                  replace hlt_m0 : w.heap.size < w12.heap.size := World.block_lt_of_cell? w12 _ m0
                  replace hlt_bx0 : X < w12.heap.size := World.block_lt_of_cell? w12 _ bx0
                  replace hlt_by0 : Y < w12.heap.size := World.block_lt_of_cell? w12 _ by0
                  replace HM := Lib.hid (HM.out.below hbk)
                  replace HL := Lib.hid (HL.out.below hbk)
                  replace HMX := Lib.hid (HMX.out.below hbk)
                  replace HMY := Lib.hid (HMY.out.below hbk)
                  replace P := Lib.hid (P.out.below hbk)
                  replace hB := bthen hB hbk
                  clear hbk hb
                  go_wp2_with fail
                  refine (k_Best (dearM k m) _ a b width _ (by exact HMY.out.below (Below.refl _ _))).mono ?_
                  rintro e w13 ⟨v, rfl, hown, hb⟩
                  rw [HB3.out] at hown ⊢
                  have hbk : Below w12.heap.size w12 w13 := bthen (Below.refl _ _) hb
                  replace m0 := below_cell hbk m0
                  replace m1 := below_cell hbk m1
                  replace m2 := below_cell hbk m2
                  replace bx0 := below_cell hbk bx0
                  replace bx1 := below_cell hbk bx1
                  replace bx2 := below_cell hbk bx2
                  replace by0 := below_cell hbk by0
                  replace by1 := below_cell hbk by1
                  replace by2 := below_cell hbk by2
                  replace hlt_m0 : w.heap.size < w13.heap.size := World.block_lt_of_cell? w13 _ m0
                  replace hlt_bx0 : X < w13.heap.size := World.block_lt_of_cell? w13 _ bx0
                  replace hlt_by0 : Y < w13.heap.size := World.block_lt_of_cell? w13 _ by0
                  replace HM := Lib.hid (HM.out.below hbk)
                  replace HL := Lib.hid (HL.out.below hbk)
                  replace HMX := Lib.hid (HMX.out.below hbk)
                  replace HMY := Lib.hid (HMY.out.below hbk)
                  replace P := Lib.hid (P.out.below hbk)
                  replace hB := bthen hB hbk
                  obtain ⟨Ra, Rc, rfl, R⟩ := own_rdI hown
                  replace R := Lib.hid R
                  clear hown
                  clear hbk hb
                  go_wp2_with fail
                  refine (k_Cost m _ bl _ _ _ (by exact HM.out.below (Below.refl _ _)) (by exact P.out.below (Below.refl _ _)) lbl).mono ?_
                  rintro e w14 ⟨rfl, hb⟩
                  rw [HC1.out]
                  have hbk : Below w13.heap.size w13 w14 := bthen (Below.refl _ _) hb
                  replace m0 := below_cell hbk m0
                  replace m1 := below_cell hbk m1
                  replace m2 := below_cell hbk m2
                  replace bx0 := below_cell hbk bx0
                  replace bx1 := below_cell hbk bx1
                  replace bx2 := below_cell hbk bx2
                  replace by0 := below_cell hbk by0
                  replace by1 := below_cell hbk by1
                  replace by2 := below_cell hbk by2
                  replace hlt_m0 : w.heap.size < w14.heap.size := World.block_lt_of_cell? w14 _ m0
                  replace hlt_bx0 : X < w14.heap.size := World.block_lt_of_cell? w14 _ bx0
                  replace hlt_by0 : Y < w14.heap.size := World.block_lt_of_cell? w14 _ by0
                  replace HM := Lib.hid (HM.out.below hbk)
                  replace HL := Lib.hid (HL.out.below hbk)
                  replace HMX := Lib.hid (HMX.out.below hbk)
                  replace HMY := Lib.hid (HMY.out.below hbk)
                  replace P := Lib.hid (P.out.below hbk)
                  replace R := Lib.hid (R.out.below hbk)
                  replace hB := bthen hB hbk
                  clear hbk hb
                  go_wp2_with fail
                  refine (k_Cost (dearM k m) _ bl _ _ _ (by exact HMY.out.below (Below.refl _ _)) (by exact P.out.below (Below.refl _ _)) lbl).mono ?_
                  rintro e w15 ⟨rfl, hb⟩
                  rw [HC2.out]
                  have hbk : Below w14.heap.size w14 w15 := bthen (Below.refl _ _) hb
                  replace m0 := below_cell hbk m0
                  replace m1 := below_cell hbk m1
                  replace m2 := below_cell hbk m2
                  replace bx0 := below_cell hbk bx0
                  replace bx1 := below_cell hbk bx1
                  replace bx2 := below_cell hbk bx2
                  replace by0 := below_cell hbk by0
                  replace by1 := below_cell hbk by1
                  replace by2 := below_cell hbk by2
                  replace hlt_m0 : w.heap.size < w15.heap.size := World.block_lt_of_cell? w15 _ m0
                  replace hlt_bx0 : X < w15.heap.size := World.block_lt_of_cell? w15 _ bx0
                  replace hlt_by0 : Y < w15.heap.size := World.block_lt_of_cell? w15 _ by0
                  replace HM := Lib.hid (HM.out.below hbk)
                  replace HL := Lib.hid (HL.out.below hbk)
                  replace HMX := Lib.hid (HMX.out.below hbk)
                  replace HMY := Lib.hid (HMY.out.below hbk)
                  replace P := Lib.hid (P.out.below hbk)
                  replace R := Lib.hid (R.out.below hbk)
                  replace hB := bthen hB hbk
                  clear hbk hb
                  go_wp2_with fail
                  refine (k_Price m _ a b width (x : Int) _ (by exact HM.out.below (Below.refl _ _))).mono ?_
                  rintro e w16 ⟨rfl, hb⟩
                  rw [HP1.out]
                  have hbk : Below w15.heap.size w15 w16 := bthen (Below.refl _ _) hb
                  replace m0 := below_cell hbk m0
                  replace m1 := below_cell hbk m1
                  replace m2 := below_cell hbk m2
                  replace bx0 := below_cell hbk bx0
                  replace bx1 := below_cell hbk bx1
                  replace bx2 := below_cell hbk bx2
                  replace by0 := below_cell hbk by0
                  replace by1 := below_cell hbk by1
                  replace by2 := below_cell hbk by2
                  replace hlt_m0 : w.heap.size < w16.heap.size := World.block_lt_of_cell? w16 _ m0
                  replace hlt_bx0 : X < w16.heap.size := World.block_lt_of_cell? w16 _ bx0
                  replace hlt_by0 : Y < w16.heap.size := World.block_lt_of_cell? w16 _ by0
                  replace HM := Lib.hid (HM.out.below hbk)
                  replace HL := Lib.hid (HL.out.below hbk)
                  replace HMX := Lib.hid (HMX.out.below hbk)
                  replace HMY := Lib.hid (HMY.out.below hbk)
                  replace P := Lib.hid (P.out.below hbk)
                  replace R := Lib.hid (R.out.below hbk)
                  replace hB := bthen hB hbk
                  clear hbk hb
                  go_wp2_with fail
                  refine (k_Price (dearM k m) _ a b width (x : Int) _ (by exact HMY.out.below (Below.refl _ _))).mono ?_
                  rintro e w17 ⟨rfl, hb⟩
                  rw [HP2.out]
                  have hbk : Below w16.heap.size w16 w17 := bthen (Below.refl _ _) hb
                  replace m0 := below_cell hbk m0
                  replace m1 := below_cell hbk m1
                  replace m2 := below_cell hbk m2
                  replace bx0 := below_cell hbk bx0
                  replace bx1 := below_cell hbk bx1
                  replace bx2 := below_cell hbk bx2
                  replace by0 := below_cell hbk by0
                  replace by1 := below_cell hbk by1
                  replace by2 := below_cell hbk by2
                  replace hlt_m0 : w.heap.size < w17.heap.size := World.block_lt_of_cell? w17 _ m0
                  replace hlt_bx0 : X < w17.heap.size := World.block_lt_of_cell? w17 _ bx0
                  replace hlt_by0 : Y < w17.heap.size := World.block_lt_of_cell? w17 _ by0
                  replace HM := Lib.hid (HM.out.below hbk)
                  replace HL := Lib.hid (HL.out.below hbk)
                  replace HMX := Lib.hid (HMX.out.below hbk)
                  replace HMY := Lib.hid (HMY.out.below hbk)
                  replace P := Lib.hid (P.out.below hbk)
                  replace R := Lib.hid (R.out.below hbk)
                  replace hB := bthen hB hbk
                  clear hbk hb
                  go_wp2_with fail
                  refine (c_Equal bl bl _ _ _ _ _ _ true _ rfl rfl (by simp) (by exact R.out.below (Below.refl _ _)) (by exact P.out.below (Below.refl _ _)) lbl lbl).mono ?_
                  rintro e w18 ⟨rfl, hb⟩
                  have hbk : Below w17.heap.size w17 w18 := bthen (Below.refl _ _) hb
                  replace m0 := below_cell hbk m0
                  replace m1 := below_cell hbk m1
                  replace m2 := below_cell hbk m2
                  replace bx0 := below_cell hbk bx0
                  replace bx1 := below_cell hbk bx1
                  replace bx2 := below_cell hbk bx2
                  replace by0 := below_cell hbk by0
                  replace by1 := below_cell hbk by1
                  replace by2 := below_cell hbk by2
                  replace hlt_m0 : w.heap.size < w18.heap.size := World.block_lt_of_cell? w18 _ m0
                  replace hlt_bx0 : X < w18.heap.size := World.block_lt_of_cell? w18 _ bx0
                  replace hlt_by0 : Y < w18.heap.size := World.block_lt_of_cell? w18 _ by0
                  replace HM := Lib.hid (HM.out.below hbk)
                  replace HL := Lib.hid (HL.out.below hbk)
                  replace HMX := Lib.hid (HMX.out.below hbk)
                  replace HMY := Lib.hid (HMY.out.below hbk)
                  replace P := Lib.hid (P.out.below hbk)
                  replace R := Lib.hid (R.out.below hbk)
                  replace hB := bthen hB hbk
                  clear hbk hb
                  clear R
                  go_wp2
                  go_ret
                  exact ⟨rfl, hB⟩
              · clear g2
                cases hdk : (dearM k m).ok with
                | false =>
                  have HCD := Lib.hid (chkE_no hdk)
                  clear hdk HDE
                  go_wp2_with fail
                  refine (k_Best m _ a b width _ (by exact HM.out.below (Below.refl _ _))).mono ?_
                  rintro e w4 ⟨v, rfl, hown, hb⟩
                  rw [HB1.out] at hown ⊢
                  have hbk : Below w3.heap.size w3 w4 := bthen (Below.refl _ _) hb
                  replace m0 := below_cell hbk m0
                  replace m1 := below_cell hbk m1
                  replace m2 := below_cell hbk m2
                  replace bx0 := below_cell hbk bx0
                  replace bx1 := below_cell hbk bx1
                  replace bx2 := below_cell hbk bx2
                  replace by0 := below_cell hbk by0
                  replace by1 := below_cell hbk by1
                  replace by2 := below_cell hbk by2
                  replace hlt_m0 : w.heap.size < w4.heap.size := World.block_lt_of_cell? w4 _ m0
                  replace hlt_bx0 : X < w4.heap.size := World.block_lt_of_cell? w4 _ bx0
                  replace hlt_by0 : Y < w4.heap.size := World.block_lt_of_cell? w4 _ by0
                  replace HM := Lib.hid (HM.out.below hbk)
                  replace HL := Lib.hid (HL.out.below hbk)
                  replace HMX := Lib.hid (HMX.out.below hbk)
                  replace HMY := Lib.hid (HMY.out.below hbk)
                  replace hB := bthen hB hbk
                  obtain ⟨Pa, Pc, rfl, P⟩ := own_rdI hown
                  replace P := Lib.hid P
                  clear hown
                  clear hbk hb
                  go_wp2_with fail
                  refine (k_Width m _ l la lc a b _ (by exact HM.out.below (Below.refl _ _)) (by exact HL.out.below (Below.refl _ _)) hll).mono ?_
                  rintro e w5 ⟨rfl, hb⟩
                  rw [HW1.out]
                  have hbk : Below w4.heap.size w4 w5 := bthen (Below.refl _ _) hb
                  replace m0 := below_cell hbk m0
                  replace m1 := below_cell hbk m1
                  replace m2 := below_cell hbk m2
                  replace bx0 := below_cell hbk bx0
                  replace bx1 := below_cell hbk bx1
                  replace bx2 := below_cell hbk bx2
                  replace by0 := below_cell hbk by0
                  replace by1 := below_cell hbk by1
                  replace by2 := below_cell hbk by2
                  replace hlt_m0 : w.heap.size < w5.heap.size := World.block_lt_of_cell? w5 _ m0
                  replace hlt_bx0 : X < w5.heap.size := World.block_lt_of_cell? w5 _ bx0
                  replace hlt_by0 : Y < w5.heap.size := World.block_lt_of_cell? w5 _ by0
                  replace HM := Lib.hid (HM.out.below hbk)
                  replace HL := Lib.hid (HL.out.below hbk)
                  replace HMX := Lib.hid (HMX.out.below hbk)
                  replace HMY := Lib.hid (HMY.out.below hbk)
                  replace P := Lib.hid (P.out.below hbk)
                  replace hB := bthen hB hbk
                  clear hbk hb
                  go_wp2_with fail
                  refine (k_Check (wideM k m) _ _ (by exact HMX.out.below (Below.refl _ _))).mono ?_
                  rintro e w6 ⟨rfl, hb⟩
                  rw [HCW.out]
                  have hbk : Below w5.heap.size w5 w6 := bthen (Below.refl _ _) hb
                  replace m0 := below_cell hbk m0
                  replace m1 := below_cell hbk m1
                  replace m2 := below_cell hbk m2
                  replace bx0 := below_cell hbk bx0
                  replace bx1 := below_cell hbk bx1
                  replace bx2 := below_cell hbk bx2
                  replace by0 := below_cell hbk by0
                  replace by1 := below_cell hbk by1
                  replace by2 := below_cell hbk by2
                  replace hlt_m0 : w.heap.size < w6.heap.size := World.block_lt_of_cell? w6 _ m0
                  replace hlt_bx0 : X < w6.heap.size := World.block_lt_of_cell? w6 _ bx0
                  replace hlt_by0 : Y < w6.heap.size := World.block_lt_of_cell? w6 _ by0
                  replace HM := Lib.hid (HM.out.below hbk)
                  replace HL := Lib.hid (HL.out.below hbk)
                  replace HMX := Lib.hid (HMX.out.below hbk)
                  replace HMY := Lib.hid (HMY.out.below hbk)
                  replace P := Lib.hid (P.out.below hbk)
                  replace hB := bthen hB hbk
                  clear hbk hb
                  go_wp2_with fail
                  refine (r_Check (wideM k m) _ _ (by exact HMX.out.below (Below.refl _ _))).mono ?_
                  rintro e w7 ⟨rfl, hb⟩
                  rw [HCW.out]
                  have hbk : Below w6.heap.size w6 w7 := bthen (Below.refl _ _) hb
                  replace m0 := below_cell hbk m0
                  replace m1 := below_cell hbk m1
                  replace m2 := below_cell hbk m2
                  replace bx0 := below_cell hbk bx0
                  replace bx1 := below_cell hbk bx1
                  replace bx2 := below_cell hbk bx2
                  replace by0 := below_cell hbk by0
                  replace by1 := below_cell hbk by1
                  replace by2 := below_cell hbk by2
                  replace hlt_m0 : w.heap.size < w7.heap.size := World.block_lt_of_cell? w7 _ m0
                  replace hlt_bx0 : X < w7.heap.size := World.block_lt_of_cell? w7 _ bx0
                  replace hlt_by0 : Y < w7.heap.size := World.block_lt_of_cell? w7 _ by0
                  replace HM := Lib.hid (HM.out.below hbk)
                  replace HL := Lib.hid (HL.out.below hbk)
                  replace HMX := Lib.hid (HMX.out.below hbk)
                  replace HMY := Lib.hid (HMY.out.below hbk)
                  replace P := Lib.hid (P.out.below hbk)
                  replace hB := bthen hB hbk
                  clear hbk hb
                  go_wp2_with fail
                  refine (k_Width (wideM k m) _ l la lc a b _ (by exact HMX.out.below (Below.refl _ _)) (by exact HL.out.below (Below.refl _ _)) hll).mono ?_
                  rintro e w8 ⟨rfl, hb⟩
                  rw [HW2.out]
                  have hbk : Below w7.heap.size w7 w8 := bthen (Below.refl _ _) hb
                  replace m0 := below_cell hbk m0
                  replace m1 := below_cell hbk m1
                  replace m2 := below_cell hbk m2
                  replace bx0 := below_cell hbk bx0
                  replace bx1 := below_cell hbk bx1
                  replace bx2 := below_cell hbk bx2
                  replace by0 := below_cell hbk by0
                  replace by1 := below_cell hbk by1
                  replace by2 := below_cell hbk by2
                  replace hlt_m0 : w.heap.size < w8.heap.size := World.block_lt_of_cell? w8 _ m0
                  replace hlt_bx0 : X < w8.heap.size := World.block_lt_of_cell? w8 _ bx0
                  replace hlt_by0 : Y < w8.heap.size := World.block_lt_of_cell? w8 _ by0
                  replace HM := Lib.hid (HM.out.below hbk)
                  replace HL := Lib.hid (HL.out.below hbk)
                  replace HMX := Lib.hid (HMX.out.below hbk)
                  replace HMY := Lib.hid (HMY.out.below hbk)
                  replace P := Lib.hid (P.out.below hbk)
                  replace hB := bthen hB hbk
                  clear hbk hb
                  go_wp2_with fail
                  refine (k_Check (dearM k m) _ _ (by exact HMY.out.below (Below.refl _ _))).mono ?_
                  rintro e w9 ⟨rfl, hb⟩
                  rw [HCD.out]
                  have hbk : Below w8.heap.size w8 w9 := bthen (Below.refl _ _) hb
                  replace m0 := below_cell hbk m0
                  replace m1 := below_cell hbk m1
                  replace m2 := below_cell hbk m2
                  replace bx0 := below_cell hbk bx0
                  replace bx1 := below_cell hbk bx1
                  replace bx2 := below_cell hbk bx2
                  replace by0 := below_cell hbk by0
                  replace by1 := below_cell hbk by1
                  replace by2 := below_cell hbk by2
                  replace hlt_m0 : w.heap.size < w9.heap.size := World.block_lt_of_cell? w9 _ m0
                  replace hlt_bx0 : X < w9.heap.size := World.block_lt_of_cell? w9 _ bx0
                  replace hlt_by0 : Y < w9.heap.size := World.block_lt_of_cell? w9 _ by0
                  replace HM := Lib.hid (HM.out.below hbk)
                  replace HL := Lib.hid (HL.out.below hbk)
                  replace HMX := Lib.hid (HMX.out.below hbk)
                  replace HMY := Lib.hid (HMY.out.below hbk)
                  replace P := Lib.hid (P.out.below hbk)
                  replace hB := bthen hB hbk
                  clear hbk hb
                  go_wp2
                  go_ret
                  exact ⟨rfl, hB⟩
                | true =>
                  obtain ⟨g3, g4, g5⟩ := HDE.out hdk
                  have HCD := Lib.hid (show chkE (dearM k m) = 0 from by simp [chkE, hdk])
                  have HB3 := Lib.hid g3
                  have HC2 := Lib.hid g4
                  have HP2 := Lib.hid g5
                  clear hdk HDE g3 g4 g5
                  go_wp2_with fail
                  refine (k_Best m _ a b width _ (by exact HM.out.below (Below.refl _ _))).mono ?_
                  rintro e w4 ⟨v, rfl, hown, hb⟩
                  rw [HB1.out] at hown ⊢
                  have hbk : Below w3.heap.size w3 w4 := bthen (Below.refl _ _) hb
                  replace m0 := below_cell hbk m0
                  replace m1 := below_cell hbk m1
                  replace m2 := below_cell hbk m2
                  replace bx0 := below_cell hbk bx0
                  replace bx1 := below_cell hbk bx1
                  replace bx2 := below_cell hbk bx2
                  replace by0 := below_cell hbk by0
                  replace by1 := below_cell hbk by1
                  replace by2 := below_cell hbk by2
                  replace hlt_m0 : w.heap.size < w4.heap.size := World.block_lt_of_cell? w4 _ m0
                  replace hlt_bx0 : X < w4.heap.size := World.block_lt_of_cell? w4 _ bx0
                  replace hlt_by0 : Y < w4.heap.size := World.block_lt_of_cell? w4 _ by0
                  replace HM := Lib.hid (HM.out.below hbk)
                  replace HL := Lib.hid (HL.out.below hbk)
                  replace HMX := Lib.hid (HMX.out.below hbk)
                  replace HMY := Lib.hid (HMY.out.below hbk)
                  replace hB := bthen hB hbk
                  obtain ⟨Pa, Pc, rfl, P⟩ := own_rdI hown
                  replace P := Lib.hid P
                  clear hown
                  clear hbk hb
                  go_wp2_with fail
                  refine (k_Width m _ l la lc a b _ (by exact HM.out.below (Below.refl _ _)) (by exact HL.out.below (Below.refl _ _)) hll).mono ?_
                  rintro e w5 ⟨rfl, hb⟩
                  rw [HW1.out]
                  have hbk : Below w4.heap.size w4 w5 := bthen (Below.refl _ _) hb
                  replace m0 := below_cell hbk m0
                  replace m1 := below_cell hbk m1
                  replace m2 := below_cell hbk m2
                  replace bx0 := below_cell hbk bx0
                  replace bx1 := below_cell hbk bx1
                  replace bx2 := below_cell hbk bx2
                  replace by0 := below_cell hbk by0
                  replace by1 := below_cell hbk by1
                  replace by2 := below_cell hbk by2
                  replace hlt_m0 : w.heap.size < w5.heap.size := World.block_lt_of_cell? w5 _ m0
                  replace hlt_bx0 : X < w5.heap.size := World.block_lt_of_cell? w5 _ bx0
                  replace hlt_by0 : Y < w5.heap.size := World.block_lt_of_cell? w5 _ by0
                  replace HM := Lib.hid (HM.out.below hbk)
                  replace HL := Lib.hid (HL.out.below hbk)
                  replace HMX := Lib.hid (HMX.out.below hbk)
                  replace HMY := Lib.hid (HMY.out.below hbk)
                  replace P := Lib.hid (P.out.below hbk)
                  replace hB := bthen hB hbk
                  clear hbk hb
                  go_wp2_with fail
                  refine (k_Check (wideM k m) _ _ (by exact HMX.out.below (Below.refl _ _))).mono ?_
                  rintro e w6 ⟨rfl, hb⟩
                  rw [HCW.out]
                  have hbk : Below w5.heap.size w5 w6 := bthen (Below.refl _ _) hb
                  replace m0 := below_cell hbk m0
                  replace m1 := below_cell hbk m1
                  replace m2 := below_cell hbk m2
                  replace bx0 := below_cell hbk bx0
                  replace bx1 := below_cell hbk bx1
                  replace bx2 := below_cell hbk bx2
                  replace by0 := below_cell hbk by0
                  replace by1 := below_cell hbk by1
                  replace by2 := below_cell hbk by2
                  replace hlt_m0 : w.heap.size < w6.heap.size := World.block_lt_of_cell? w6 _ m0
                  replace hlt_bx0 : X < w6.heap.size := World.block_lt_of_cell? w6 _ bx0
                  replace hlt_by0 : Y < w6.heap.size := World.block_lt_of_cell? w6 _ by0
                  replace HM := Lib.hid (HM.out.below hbk)
                  replace HL := Lib.hid (HL.out.below hbk)
                  replace HMX := Lib.hid (HMX.out.below hbk)
                  replace HMY := Lib.hid (HMY.out.below hbk)
                  replace P := Lib.hid (P.out.below hbk)
                  replace hB := bthen hB hbk
                  clear hbk hb
                  go_wp2_with fail
                  refine (r_Check (wideM k m) _ _ (by exact HMX.out.below (Below.refl _ _))).mono ?_
                  rintro e w7 ⟨rfl, hb⟩
                  rw [HCW.out]
                  have hbk : Below w6.heap.size w6 w7 := bthen (Below.refl _ _) hb
                  replace m0 := below_cell hbk m0
                  replace m1 := below_cell hbk m1
                  replace m2 := below_cell hbk m2
                  replace bx0 := below_cell hbk bx0
                  replace bx1 := below_cell hbk bx1
                  replace bx2 := below_cell hbk bx2
                  replace by0 := below_cell hbk by0
                  replace by1 := below_cell hbk by1
                  replace by2 := below_cell hbk by2
                  replace hlt_m0 : w.heap.size < w7.heap.size := World.block_lt_of_cell? w7 _ m0
                  replace hlt_bx0 : X < w7.heap.size := World.block_lt_of_cell? w7 _ bx0
                  replace hlt_by0 : Y < w7.heap.size := World.block_lt_of_cell? w7 _ by0
                  replace HM := Lib.hid (HM.out.below hbk)
                  replace HL := Lib.hid (HL.out.below hbk)
                  replace HMX := Lib.hid (HMX.out.below hbk)
                  replace HMY := Lib.hid (HMY.out.below hbk)
                  replace P := Lib.hid (P.out.below hbk)
                  replace hB := bthen hB hbk
                  clear hbk hb
                  go_wp2_with fail
                  refine (k_Width (wideM k m) _ l la lc a b _ (by exact HMX.out.below (Below.refl _ _)) (by exact HL.out.below (Below.refl _ _)) hll).mono ?_
                  rintro e w8 ⟨rfl, hb⟩
                  rw [HW2.out]
                  have hbk : Below w7.heap.size w7 w8 := bthen (Below.refl _ _) hb
                  replace m0 := below_cell hbk m0
                  replace m1 := below_cell hbk m1
                  replace m2 := below_cell hbk m2
                  replace bx0 := below_cell hbk bx0
                  replace bx1 := below_cell hbk bx1
                  replace bx2 := below_cell hbk bx2
                  replace by0 := below_cell hbk by0
                  replace by1 := below_cell hbk by1
                  replace by2 := below_cell hbk by2
                  replace hlt_m0 : w.heap.size < w8.heap.size := World.block_lt_of_cell? w8 _ m0
                  replace hlt_bx0 : X < w8.heap.size := World.block_lt_of_cell? w8 _ bx0
                  replace hlt_by0 : Y < w8.heap.size := World.block_lt_of_cell? w8 _ by0
                  replace HM := Lib.hid (HM.out.below hbk)
                  replace HL := Lib.hid (HL.out.below hbk)
                  replace HMX := Lib.hid (HMX.out.below hbk)
                  replace HMY := Lib.hid (HMY.out.below hbk)
                  replace P := Lib.hid (P.out.below hbk)
                  replace hB := bthen hB hbk
                  clear hbk hb
                  go_wp2_with fail
                  refine (k_Check (dearM k m) _ _ (by exact HMY.out.below (Below.refl _ _))).mono ?_
                  rintro e w9 ⟨rfl, hb⟩
                  rw [HCD.out]
                  have hbk : Below w8.heap.size w8 w9 := bthen (Below.refl _ _) hb
                  replace m0 := below_cell hbk m0
                  replace m1 := below_cell hbk m1
                  replace m2 := below_cell hbk m2
                  replace bx0 := below_cell hbk bx0
                  replace bx1 := below_cell hbk bx1
                  replace bx2 := below_cell hbk bx2
                  replace by0 := below_cell hbk by0
                  replace by1 := below_cell hbk by1
                  replace by2 := below_cell hbk by2
                  replace hlt_m0 : w.heap.size < w9.heap.size := World.block_lt_of_cell? w9 _ m0
                  replace hlt_bx0 : X < w9.heap.size := World.block_lt_of_cell? w9 _ bx0
                  replace hlt_by0 : Y < w9.heap.size := World.block_lt_of_cell? w9 _ by0
                  replace HM := Lib.hid (HM.out.below hbk)
                  replace HL := Lib.hid (HL.out.below hbk)
                  replace HMX := Lib.hid (HMX.out.below hbk)
                  replace HMY := Lib.hid (HMY.out.below hbk)
                  replace P := Lib.hid (P.out.below hbk)
                  replace hB := bthen hB hbk
                  clear hbk hb
                  go_wp2_with fail
                  refine (r_Check (dearM k m) _ _ (by exact HMY.out.below (Below.refl _ _))).mono ?_
                  rintro e w10 ⟨rfl, hb⟩
                  rw [HCD.out]
                  have hbk : Below w9.heap.size w9 w10 := bthen (Below.refl _ _) hb
                  replace m0 := below_cell hbk m0
                  replace m1 := below_cell hbk m1
                  replace m2 := below_cell hbk m2
                  replace bx0 := below_cell hbk bx0
                  replace bx1 := below_cell hbk bx1
                  replace bx2 := below_cell hbk bx2
                  replace by0 := below_cell hbk by0
                  replace by1 := below_cell hbk by1
                  replace by2 := below_cell hbk by2
                  replace hlt_m0 : w.heap.size < w10.heap.size := World.block_lt_of_cell? w10 _ m0
                  replace hlt_bx0 : X < w10.heap.size := World.block_lt_of_cell? w10 _ bx0
                  replace hlt_by0 : Y < w10.heap.size := World.block_lt_of_cell? w10 _ by0
                  replace HM := Lib.hid (HM.out.below hbk)
                  replace HL := Lib.hid (HL.out.below hbk)
                  replace HMX := Lib.hid (HMX.out.below hbk)
                  replace HMY := Lib.hid (HMY.out.below hbk)
                  replace P := Lib.hid (P.out.below hbk)
                  replace hB := bthen hB hbk
                  clear hbk hb
                  go_wp2_with fail
                  refine (k_Best (dearM k m) _ a b width _ (by exact HMY.out.below (Below.refl _ _))).mono ?_
                  rintro e w11 ⟨v, rfl, hown, hb⟩
                  rw [HB3.out] at hown ⊢
                  have hbk : Below w10.heap.size w10 w11 := bthen (Below.refl _ _) hb
                  replace m0 := below_cell hbk m0
                  replace m1 := below_cell hbk m1
                  replace m2 := below_cell hbk m2
                  replace bx0 := below_cell hbk bx0
                  replace bx1 := below_cell hbk bx1
                  replace bx2 := below_cell hbk bx2
                  replace by0 := below_cell hbk by0
                  replace by1 := below_cell hbk by1
                  replace by2 := below_cell hbk by2
                  replace hlt_m0 : w.heap.size < w11.heap.size := World.block_lt_of_cell? w11 _ m0
                  replace hlt_bx0 : X < w11.heap.size := World.block_lt_of_cell? w11 _ bx0
                  replace hlt_by0 : Y < w11.heap.size := World.block_lt_of_cell? w11 _ by0
                  replace HM := Lib.hid (HM.out.below hbk)
                  replace HL := Lib.hid (HL.out.below hbk)
                  replace HMX := Lib.hid (HMX.out.below hbk)
                  replace HMY := Lib.hid (HMY.out.below hbk)
                  replace P := Lib.hid (P.out.below hbk)
                  replace hB := bthen hB hbk
                  obtain ⟨Ra, Rc, rfl, R⟩ := own_rdI hown
                  replace R := Lib.hid R
                  clear hown
                  clear hbk hb
                  go_wp2_with fail
                  refine (k_Cost m _ bl _ _ _ (by exact HM.out.below (Below.refl _ _)) (by exact P.out.below (Below.refl _ _)) lbl).mono ?_
                  rintro e w12 ⟨rfl, hb⟩
                  rw [HC1.out]
                  have hbk : Below w11.heap.size w11 w12 := bthen (Below.refl _ _) hb
                  replace m0 := below_cell hbk m0
                  replace m1 := below_cell hbk m1
                  replace m2 := below_cell hbk m2
                  replace bx0 := below_cell hbk bx0
                  replace bx1 := below_cell hbk bx1
                  replace bx2 := below_cell hbk bx2
                  replace by0 := below_cell hbk by0
                  replace by1 := below_cell hbk by1
                  replace by2 := below_cell hbk by2
                  replace hlt_m0 : w.heap.size < w12.heap.size := World.block_lt_of_cell? w12 _ m0
                  replace hlt_bx0 : X < w12.heap.size := World.block_lt_of_cell? w12 _ bx0
                  replace hlt_by0 : Y < w12.heap.size := World.block_lt_of_cell? w12 _ by0
                  replace HM := Lib.hid (HM.out.below hbk)
                  replace HL := Lib.hid (HL.out.below hbk)
                  replace HMX := Lib.hid (HMX.out.below hbk)
                  replace HMY := Lib.hid (HMY.out.below hbk)
                  replace P := Lib.hid (P.out.below hbk)
                  replace R := Lib.hid (R.out.below hbk)
                  replace hB := bthen hB hbk
                  clear hbk hb
                  go_wp2_with fail
                  refine (k_Cost (dearM k m) _ bl _ _ _ (by exact HMY.out.below (Below.refl _ _)) (by exact P.out.below (Below.refl _ _)) lbl).mono ?_
                  rintro e w13 ⟨rfl, hb⟩
                  rw [HC2.out]
                  have hbk : Below w12.heap.size w12 w13 := bthen (Below.refl _ _) hb
                  replace m0 := below_cell hbk m0
                  replace m1 := below_cell hbk m1
                  replace m2 := below_cell hbk m2
                  replace bx0 := below_cell hbk bx0
                  replace bx1 := below_cell hbk bx1
                  replace bx2 := below_cell hbk bx2
                  replace by0 := below_cell hbk by0
                  replace by1 := below_cell hbk by1
                  replace by2 := below_cell hbk by2
                  replace hlt_m0 : w.heap.size < w13.heap.size := World.block_lt_of_cell? w13 _ m0
                  replace hlt_bx0 : X < w13.heap.size := World.block_lt_of_cell? w13 _ bx0
                  replace hlt_by0 : Y < w13.heap.size := World.block_lt_of_cell? w13 _ by0
                  replace HM := Lib.hid (HM.out.below hbk)
                  replace HL := Lib.hid (HL.out.below hbk)
                  replace HMX := Lib.hid (HMX.out.below hbk)
                  replace HMY := Lib.hid (HMY.out.below hbk)
                  replace P := Lib.hid (P.out.below hbk)
                  replace R := Lib.hid (R.out.below hbk)
                  replace hB := bthen hB hbk
                  clear hbk hb
                  go_wp2_with fail
                  refine (k_Price m _ a b width (x : Int) _ (by exact HM.out.below (Below.refl _ _))).mono ?_
                  rintro e w14 ⟨rfl, hb⟩
                  rw [HP1.out]
                  have hbk : Below w13.heap.size w13 w14 := bthen (Below.refl _ _) hb
                  replace m0 := below_cell hbk m0
                  replace m1 := below_cell hbk m1
                  replace m2 := below_cell hbk m2
                  replace bx0 := below_cell hbk bx0
                  replace bx1 := below_cell hbk bx1
                  replace bx2 := below_cell hbk bx2
                  replace by0 := below_cell hbk by0
                  replace by1 := below_cell hbk by1
                  replace by2 := below_cell hbk by2
                  replace hlt_m0 : w.heap.size < w14.heap.size := World.block_lt_of_cell? w14 _ m0
                  replace hlt_bx0 : X < w14.heap.size := World.block_lt_of_cell? w14 _ bx0
                  replace hlt_by0 : Y < w14.heap.size := World.block_lt_of_cell? w14 _ by0
                  replace HM := Lib.hid (HM.out.below hbk)
                  replace HL := Lib.hid (HL.out.below hbk)
                  replace HMX := Lib.hid (HMX.out.below hbk)
                  replace HMY := Lib.hid (HMY.out.below hbk)
                  replace P := Lib.hid (P.out.below hbk)
                  replace R := Lib.hid (R.out.below hbk)
                  replace hB := bthen hB hbk
                  clear hbk hb
                  go_wp2_with fail
                  refine (k_Price (dearM k m) _ a b width (x : Int) _ (by exact HMY.out.below (Below.refl _ _))).mono ?_
                  rintro e w15 ⟨rfl, hb⟩
                  rw [HP2.out]
                  have hbk : Below w14.heap.size w14 w15 := bthen (Below.refl _ _) hb
                  replace m0 := below_cell hbk m0
                  replace m1 := below_cell hbk m1
                  replace m2 := below_cell hbk m2
                  replace bx0 := below_cell hbk bx0
                  replace bx1 := below_cell hbk bx1
                  replace bx2 := below_cell hbk bx2
                  replace by0 := below_cell hbk by0
                  replace by1 := below_cell hbk by1
                  replace by2 := below_cell hbk by2
                  replace hlt_m0 : w.heap.size < w15.heap.size := World.block_lt_of_cell? w15 _ m0
                  replace hlt_bx0 : X < w15.heap.size := World.block_lt_of_cell? w15 _ bx0
                  replace hlt_by0 : Y < w15.heap.size := World.block_lt_of_cell? w15 _ by0
                  replace HM := Lib.hid (HM.out.below hbk)
                  replace HL := Lib.hid (HL.out.below hbk)
                  replace HMX := Lib.hid (HMX.out.below hbk)
                  replace HMY := Lib.hid (HMY.out.below hbk)
                  replace P := Lib.hid (P.out.below hbk)
                  replace R := Lib.hid (R.out.below hbk)
                  replace hB := bthen hB hbk
                  clear hbk hb
                  go_wp2_with fail
                  refine (c_Equal bl bl _ _ _ _ _ _ true _ rfl rfl (by simp) (by exact R.out.below (Below.refl _ _)) (by exact P.out.below (Below.refl _ _)) lbl lbl).mono ?_
                  rintro e w16 ⟨rfl, hb⟩
                  have hbk : Below w15.heap.size w15 w16 := bthen (Below.refl _ _) hb
                  replace m0 := below_cell hbk m0
                  replace m1 := below_cell hbk m1
                  replace m2 := below_cell hbk m2
                  replace bx0 := below_cell hbk bx0
                  replace bx1 := below_cell hbk bx1
                  replace bx2 := below_cell hbk bx2
                  replace by0 := below_cell hbk by0
                  replace by1 := below_cell hbk by1
                  replace by2 := below_cell hbk by2
                  replace hlt_m0 : w.heap.size < w16.heap.size := World.block_lt_of_cell? w16 _ m0
                  replace hlt_bx0 : X < w16.heap.size := World.block_lt_of_cell? w16 _ bx0
                  replace hlt_by0 : Y < w16.heap.size := World.block_lt_of_cell? w16 _ by0
                  replace HM := Lib.hid (HM.out.below hbk)
                  replace HL := Lib.hid (HL.out.below hbk)
                  replace HMX := Lib.hid (HMX.out.below hbk)
                  replace HMY := Lib.hid (HMY.out.below hbk)
                  replace P := Lib.hid (P.out.below hbk)
                  replace R := Lib.hid (R.out.below hbk)
                  replace hB := bthen hB hbk
                  clear hbk hb
                  clear R
                  go_wp2
                  go_ret
                  exact ⟨rfl, hB⟩
set_option maxHeartbeats 16000000 in
set_option maxRecDepth 100000 in
theorem law_Scaled (m : Mk) (mv : Value) (l : List Int) (la : Option Addr) (ln lc : Nat) (a b width x k : Int) (w : World) (hm : MkRd w m mv) (hln : l.length = ln) (hl : RdI w la l) (hll : ln ≤ 140737488355328) :
    Calls Try.prog 7 #[mv, .slice la ln lc, .int .i64 a, .int .i64 b, .int .i64 width, .int .i64 x, .int .i64 k] w fun e w' => e = .returned (.bool true) ∧ Below w.heap.size w w' := by
  subst hln
  have hm0 := hm
  have hl0 := hl
  have HM := Lib.hid hm
  obtain ⟨ka, kc, oa, oc, rfl, _⟩ := hm
  have HL := Lib.hid hl
  clear hl
  cases hask : askedB m l [a, b] with
  | false =>
    have HASK := Lib.hid hask
    clear hask hm0 hl0
    go_enter Try.func7, Try.ntmps7
    go_wp2_with fail
    refine (l_sane _).mono ?_
    rintro e w1 ⟨rfl, hb⟩
    have hbk : Below w.heap.size w w1 := bthen (bal (Below.refl _ _) (.cells #[.int .i64 m.n, .slice ka m.ks.length kc, .slice oa m.os.length oc] 24)) hb
    have m0 := below_cell hb (show (w.alloc (.cells #[.int .i64 m.n, .slice ka m.ks.length kc, .slice oa m.os.length oc] 24)).cell? ⟨w.heap.size, 0, none⟩ = some (.int .i64 m.n) from by simp)
    have m1 := below_cell hb (show (w.alloc (.cells #[.int .i64 m.n, .slice ka m.ks.length kc, .slice oa m.os.length oc] 24)).cell? ⟨w.heap.size, 1, none⟩ = some (.slice ka m.ks.length kc) from by simp)
    have m2 := below_cell hb (show (w.alloc (.cells #[.int .i64 m.n, .slice ka m.ks.length kc, .slice oa m.os.length oc] 24)).cell? ⟨w.heap.size, 2, none⟩ = some (.slice oa m.os.length oc) from by simp)
    have hlt_m0 : w.heap.size < w1.heap.size := World.block_lt_of_cell? w1 _ m0
    replace HM := Lib.hid (HM.out.below hbk)
    replace HL := Lib.hid (HL.out.below hbk)
    have hB := hbk
    clear hbk hb
    go_wp2_with fail
    refine (l_asked m _ l [a, b] la _ lc _ 2 _ (by exact HM.out.below (bal (Below.refl _ _) (.cells #[.int .i64 a, .int .i64 b] 3))) (by exact HL.out.below (bal (Below.refl _ _) (.cells #[.int .i64 a, .int .i64 b] 3))) hll (by simpa using rdI_new w1 [a, b] 3 : RdI _ (some ⟨w1.heap.size, 0, none⟩) [a, b]) rfl (by decide)).mono ?_
    rintro e w2 ⟨rfl, hb⟩
    rw [HASK.out]
    have hbk : Below w1.heap.size w1 w2 := bthen (bal (Below.refl _ _) (.cells #[.int .i64 a, .int .i64 b] 3)) hb
    replace m0 := below_cell hbk m0
    replace m1 := below_cell hbk m1
    replace m2 := below_cell hbk m2
    replace hlt_m0 : w.heap.size < w2.heap.size := World.block_lt_of_cell? w2 _ m0
    replace HM := Lib.hid (HM.out.below hbk)
    replace HL := Lib.hid (HL.out.below hbk)
    replace hB := bthen hB hbk
    clear hbk hb
    go_wp2
    go_ret
    exact ⟨rfl, hB⟩
  | true =>
    have HASK := Lib.hid hask
    by_cases g0 : width < 0
    · clear hask hm0 hl0
      go_enter Try.func7, Try.ntmps7
      go_wp2_with fail
      refine (l_sane _).mono ?_
      rintro e w1 ⟨rfl, hb⟩
      have hbk : Below w.heap.size w w1 := bthen (bal (Below.refl _ _) (.cells #[.int .i64 m.n, .slice ka m.ks.length kc, .slice oa m.os.length oc] 24)) hb
      have m0 := below_cell hb (show (w.alloc (.cells #[.int .i64 m.n, .slice ka m.ks.length kc, .slice oa m.os.length oc] 24)).cell? ⟨w.heap.size, 0, none⟩ = some (.int .i64 m.n) from by simp)
      have m1 := below_cell hb (show (w.alloc (.cells #[.int .i64 m.n, .slice ka m.ks.length kc, .slice oa m.os.length oc] 24)).cell? ⟨w.heap.size, 1, none⟩ = some (.slice ka m.ks.length kc) from by simp)
      have m2 := below_cell hb (show (w.alloc (.cells #[.int .i64 m.n, .slice ka m.ks.length kc, .slice oa m.os.length oc] 24)).cell? ⟨w.heap.size, 2, none⟩ = some (.slice oa m.os.length oc) from by simp)
      have hlt_m0 : w.heap.size < w1.heap.size := World.block_lt_of_cell? w1 _ m0
      replace HM := Lib.hid (HM.out.below hbk)
      replace HL := Lib.hid (HL.out.below hbk)
      have hB := hbk
      clear hbk hb
      go_wp2_with fail
      refine (l_asked m _ l [a, b] la _ lc _ 2 _ (by exact HM.out.below (bal (Below.refl _ _) (.cells #[.int .i64 a, .int .i64 b] 3))) (by exact HL.out.below (bal (Below.refl _ _) (.cells #[.int .i64 a, .int .i64 b] 3))) hll (by simpa using rdI_new w1 [a, b] 3 : RdI _ (some ⟨w1.heap.size, 0, none⟩) [a, b]) rfl (by decide)).mono ?_
      rintro e w2 ⟨rfl, hb⟩
      rw [HASK.out]
      have hbk : Below w1.heap.size w1 w2 := bthen (bal (Below.refl _ _) (.cells #[.int .i64 a, .int .i64 b] 3)) hb
      replace m0 := below_cell hbk m0
      replace m1 := below_cell hbk m1
      replace m2 := below_cell hbk m2
      replace hlt_m0 : w.heap.size < w2.heap.size := World.block_lt_of_cell? w2 _ m0
      replace HM := Lib.hid (HM.out.below hbk)
      replace HL := Lib.hid (HL.out.below hbk)
      replace hB := bthen hB hbk
      clear hbk hb
      go_wp2
      go_ret
      exact ⟨rfl, hB⟩
    have f0 : 0 ≤ width := by omega
    clear g0
    by_cases g1 : 16777216 < width
    · clear hask hm0 hl0
      go_enter Try.func7, Try.ntmps7
      go_wp2_with fail
      refine (l_sane _).mono ?_
      rintro e w1 ⟨rfl, hb⟩
      have hbk : Below w.heap.size w w1 := bthen (bal (Below.refl _ _) (.cells #[.int .i64 m.n, .slice ka m.ks.length kc, .slice oa m.os.length oc] 24)) hb
      have m0 := below_cell hb (show (w.alloc (.cells #[.int .i64 m.n, .slice ka m.ks.length kc, .slice oa m.os.length oc] 24)).cell? ⟨w.heap.size, 0, none⟩ = some (.int .i64 m.n) from by simp)
      have m1 := below_cell hb (show (w.alloc (.cells #[.int .i64 m.n, .slice ka m.ks.length kc, .slice oa m.os.length oc] 24)).cell? ⟨w.heap.size, 1, none⟩ = some (.slice ka m.ks.length kc) from by simp)
      have m2 := below_cell hb (show (w.alloc (.cells #[.int .i64 m.n, .slice ka m.ks.length kc, .slice oa m.os.length oc] 24)).cell? ⟨w.heap.size, 2, none⟩ = some (.slice oa m.os.length oc) from by simp)
      have hlt_m0 : w.heap.size < w1.heap.size := World.block_lt_of_cell? w1 _ m0
      replace HM := Lib.hid (HM.out.below hbk)
      replace HL := Lib.hid (HL.out.below hbk)
      have hB := hbk
      clear hbk hb
      go_wp2_with fail
      refine (l_asked m _ l [a, b] la _ lc _ 2 _ (by exact HM.out.below (bal (Below.refl _ _) (.cells #[.int .i64 a, .int .i64 b] 3))) (by exact HL.out.below (bal (Below.refl _ _) (.cells #[.int .i64 a, .int .i64 b] 3))) hll (by simpa using rdI_new w1 [a, b] 3 : RdI _ (some ⟨w1.heap.size, 0, none⟩) [a, b]) rfl (by decide)).mono ?_
      rintro e w2 ⟨rfl, hb⟩
      rw [HASK.out]
      have hbk : Below w1.heap.size w1 w2 := bthen (bal (Below.refl _ _) (.cells #[.int .i64 a, .int .i64 b] 3)) hb
      replace m0 := below_cell hbk m0
      replace m1 := below_cell hbk m1
      replace m2 := below_cell hbk m2
      replace hlt_m0 : w.heap.size < w2.heap.size := World.block_lt_of_cell? w2 _ m0
      replace HM := Lib.hid (HM.out.below hbk)
      replace HL := Lib.hid (HL.out.below hbk)
      replace hB := bthen hB hbk
      clear hbk hb
      go_wp2
      go_ret
      exact ⟨rfl, hB⟩
    have f1 : width ≤ 16777216 := by omega
    clear g1
    by_cases g2 : k < 1
    · clear hask hm0 hl0
      go_enter Try.func7, Try.ntmps7
      go_wp2_with fail
      refine (l_sane _).mono ?_
      rintro e w1 ⟨rfl, hb⟩
      have hbk : Below w.heap.size w w1 := bthen (bal (Below.refl _ _) (.cells #[.int .i64 m.n, .slice ka m.ks.length kc, .slice oa m.os.length oc] 24)) hb
      have m0 := below_cell hb (show (w.alloc (.cells #[.int .i64 m.n, .slice ka m.ks.length kc, .slice oa m.os.length oc] 24)).cell? ⟨w.heap.size, 0, none⟩ = some (.int .i64 m.n) from by simp)
      have m1 := below_cell hb (show (w.alloc (.cells #[.int .i64 m.n, .slice ka m.ks.length kc, .slice oa m.os.length oc] 24)).cell? ⟨w.heap.size, 1, none⟩ = some (.slice ka m.ks.length kc) from by simp)
      have m2 := below_cell hb (show (w.alloc (.cells #[.int .i64 m.n, .slice ka m.ks.length kc, .slice oa m.os.length oc] 24)).cell? ⟨w.heap.size, 2, none⟩ = some (.slice oa m.os.length oc) from by simp)
      have hlt_m0 : w.heap.size < w1.heap.size := World.block_lt_of_cell? w1 _ m0
      replace HM := Lib.hid (HM.out.below hbk)
      replace HL := Lib.hid (HL.out.below hbk)
      have hB := hbk
      clear hbk hb
      go_wp2_with fail
      refine (l_asked m _ l [a, b] la _ lc _ 2 _ (by exact HM.out.below (bal (Below.refl _ _) (.cells #[.int .i64 a, .int .i64 b] 3))) (by exact HL.out.below (bal (Below.refl _ _) (.cells #[.int .i64 a, .int .i64 b] 3))) hll (by simpa using rdI_new w1 [a, b] 3 : RdI _ (some ⟨w1.heap.size, 0, none⟩) [a, b]) rfl (by decide)).mono ?_
      rintro e w2 ⟨rfl, hb⟩
      rw [HASK.out]
      have hbk : Below w1.heap.size w1 w2 := bthen (bal (Below.refl _ _) (.cells #[.int .i64 a, .int .i64 b] 3)) hb
      replace m0 := below_cell hbk m0
      replace m1 := below_cell hbk m1
      replace m2 := below_cell hbk m2
      replace hlt_m0 : w.heap.size < w2.heap.size := World.block_lt_of_cell? w2 _ m0
      replace HM := Lib.hid (HM.out.below hbk)
      replace HL := Lib.hid (HL.out.below hbk)
      replace hB := bthen hB hbk
      clear hbk hb
      go_wp2
      go_ret
      exact ⟨rfl, hB⟩
    have f2 : 1 ≤ k := by omega
    clear g2
    by_cases g3 : 1000 < k
    · clear hask hm0 hl0
      go_enter Try.func7, Try.ntmps7
      go_wp2_with fail
      refine (l_sane _).mono ?_
      rintro e w1 ⟨rfl, hb⟩
      have hbk : Below w.heap.size w w1 := bthen (bal (Below.refl _ _) (.cells #[.int .i64 m.n, .slice ka m.ks.length kc, .slice oa m.os.length oc] 24)) hb
      have m0 := below_cell hb (show (w.alloc (.cells #[.int .i64 m.n, .slice ka m.ks.length kc, .slice oa m.os.length oc] 24)).cell? ⟨w.heap.size, 0, none⟩ = some (.int .i64 m.n) from by simp)
      have m1 := below_cell hb (show (w.alloc (.cells #[.int .i64 m.n, .slice ka m.ks.length kc, .slice oa m.os.length oc] 24)).cell? ⟨w.heap.size, 1, none⟩ = some (.slice ka m.ks.length kc) from by simp)
      have m2 := below_cell hb (show (w.alloc (.cells #[.int .i64 m.n, .slice ka m.ks.length kc, .slice oa m.os.length oc] 24)).cell? ⟨w.heap.size, 2, none⟩ = some (.slice oa m.os.length oc) from by simp)
      have hlt_m0 : w.heap.size < w1.heap.size := World.block_lt_of_cell? w1 _ m0
      replace HM := Lib.hid (HM.out.below hbk)
      replace HL := Lib.hid (HL.out.below hbk)
      have hB := hbk
      clear hbk hb
      go_wp2_with fail
      refine (l_asked m _ l [a, b] la _ lc _ 2 _ (by exact HM.out.below (bal (Below.refl _ _) (.cells #[.int .i64 a, .int .i64 b] 3))) (by exact HL.out.below (bal (Below.refl _ _) (.cells #[.int .i64 a, .int .i64 b] 3))) hll (by simpa using rdI_new w1 [a, b] 3 : RdI _ (some ⟨w1.heap.size, 0, none⟩) [a, b]) rfl (by decide)).mono ?_
      rintro e w2 ⟨rfl, hb⟩
      rw [HASK.out]
      have hbk : Below w1.heap.size w1 w2 := bthen (bal (Below.refl _ _) (.cells #[.int .i64 a, .int .i64 b] 3)) hb
      replace m0 := below_cell hbk m0
      replace m1 := below_cell hbk m1
      replace m2 := below_cell hbk m2
      replace hlt_m0 : w.heap.size < w2.heap.size := World.block_lt_of_cell? w2 _ m0
      replace HM := Lib.hid (HM.out.below hbk)
      replace HL := Lib.hid (HL.out.below hbk)
      replace hB := bthen hB hbk
      clear hbk hb
      go_wp2
      go_ret
      exact ⟨rfl, hB⟩
    have f3 : k ≤ 1000 := by omega
    clear g3
    by_cases g4 : x < 0
    · clear hask hm0 hl0
      go_enter Try.func7, Try.ntmps7
      go_wp2_with fail
      refine (l_sane _).mono ?_
      rintro e w1 ⟨rfl, hb⟩
      have hbk : Below w.heap.size w w1 := bthen (bal (Below.refl _ _) (.cells #[.int .i64 m.n, .slice ka m.ks.length kc, .slice oa m.os.length oc] 24)) hb
      have m0 := below_cell hb (show (w.alloc (.cells #[.int .i64 m.n, .slice ka m.ks.length kc, .slice oa m.os.length oc] 24)).cell? ⟨w.heap.size, 0, none⟩ = some (.int .i64 m.n) from by simp)
      have m1 := below_cell hb (show (w.alloc (.cells #[.int .i64 m.n, .slice ka m.ks.length kc, .slice oa m.os.length oc] 24)).cell? ⟨w.heap.size, 1, none⟩ = some (.slice ka m.ks.length kc) from by simp)
      have m2 := below_cell hb (show (w.alloc (.cells #[.int .i64 m.n, .slice ka m.ks.length kc, .slice oa m.os.length oc] 24)).cell? ⟨w.heap.size, 2, none⟩ = some (.slice oa m.os.length oc) from by simp)
      have hlt_m0 : w.heap.size < w1.heap.size := World.block_lt_of_cell? w1 _ m0
      replace HM := Lib.hid (HM.out.below hbk)
      replace HL := Lib.hid (HL.out.below hbk)
      have hB := hbk
      clear hbk hb
      go_wp2_with fail
      refine (l_asked m _ l [a, b] la _ lc _ 2 _ (by exact HM.out.below (bal (Below.refl _ _) (.cells #[.int .i64 a, .int .i64 b] 3))) (by exact HL.out.below (bal (Below.refl _ _) (.cells #[.int .i64 a, .int .i64 b] 3))) hll (by simpa using rdI_new w1 [a, b] 3 : RdI _ (some ⟨w1.heap.size, 0, none⟩) [a, b]) rfl (by decide)).mono ?_
      rintro e w2 ⟨rfl, hb⟩
      rw [HASK.out]
      have hbk : Below w1.heap.size w1 w2 := bthen (bal (Below.refl _ _) (.cells #[.int .i64 a, .int .i64 b] 3)) hb
      replace m0 := below_cell hbk m0
      replace m1 := below_cell hbk m1
      replace m2 := below_cell hbk m2
      replace hlt_m0 : w.heap.size < w2.heap.size := World.block_lt_of_cell? w2 _ m0
      replace HM := Lib.hid (HM.out.below hbk)
      replace HL := Lib.hid (HL.out.below hbk)
      replace hB := bthen hB hbk
      clear hbk hb
      go_wp2
      go_ret
      exact ⟨rfl, hB⟩
    have f4 : 0 ≤ x := by omega
    clear g4
    by_cases g5 : (m.os.length : Int) ≤ x
    · clear hask hm0 hl0
      go_enter Try.func7, Try.ntmps7
      go_wp2_with fail
      refine (l_sane _).mono ?_
      rintro e w1 ⟨rfl, hb⟩
      have hbk : Below w.heap.size w w1 := bthen (bal (Below.refl _ _) (.cells #[.int .i64 m.n, .slice ka m.ks.length kc, .slice oa m.os.length oc] 24)) hb
      have m0 := below_cell hb (show (w.alloc (.cells #[.int .i64 m.n, .slice ka m.ks.length kc, .slice oa m.os.length oc] 24)).cell? ⟨w.heap.size, 0, none⟩ = some (.int .i64 m.n) from by simp)
      have m1 := below_cell hb (show (w.alloc (.cells #[.int .i64 m.n, .slice ka m.ks.length kc, .slice oa m.os.length oc] 24)).cell? ⟨w.heap.size, 1, none⟩ = some (.slice ka m.ks.length kc) from by simp)
      have m2 := below_cell hb (show (w.alloc (.cells #[.int .i64 m.n, .slice ka m.ks.length kc, .slice oa m.os.length oc] 24)).cell? ⟨w.heap.size, 2, none⟩ = some (.slice oa m.os.length oc) from by simp)
      have hlt_m0 : w.heap.size < w1.heap.size := World.block_lt_of_cell? w1 _ m0
      replace HM := Lib.hid (HM.out.below hbk)
      replace HL := Lib.hid (HL.out.below hbk)
      have hB := hbk
      clear hbk hb
      go_wp2_with fail
      refine (l_asked m _ l [a, b] la _ lc _ 2 _ (by exact HM.out.below (bal (Below.refl _ _) (.cells #[.int .i64 a, .int .i64 b] 3))) (by exact HL.out.below (bal (Below.refl _ _) (.cells #[.int .i64 a, .int .i64 b] 3))) hll (by simpa using rdI_new w1 [a, b] 3 : RdI _ (some ⟨w1.heap.size, 0, none⟩) [a, b]) rfl (by decide)).mono ?_
      rintro e w2 ⟨rfl, hb⟩
      rw [HASK.out]
      have hbk : Below w1.heap.size w1 w2 := bthen (bal (Below.refl _ _) (.cells #[.int .i64 a, .int .i64 b] 3)) hb
      replace m0 := below_cell hbk m0
      replace m1 := below_cell hbk m1
      replace m2 := below_cell hbk m2
      replace hlt_m0 : w.heap.size < w2.heap.size := World.block_lt_of_cell? w2 _ m0
      replace HM := Lib.hid (HM.out.below hbk)
      replace HL := Lib.hid (HL.out.below hbk)
      replace hB := bthen hB hbk
      clear hbk hb
      go_wp2
      go_ret
      exact ⟨rfl, hB⟩
    have f5 : x < (m.os.length : Int) := by omega
    clear g5
    obtain ⟨_, _, hok, _, hcl⟩ := asked_yes hask
    have hM := okM hok
    obtain ⟨x, rfl⟩ := Int.eq_ofNat_of_zero_le f4
    obtain ⟨bl, is, n, kn, c, p, so, er, e1, e2, lbl, e3, e4, bn0, bn1, bc0, bc1, bp0, bp1, hwi, hde⟩ := scaled (x := x) hask f0 f1 f2 f3 (by omega)
    refine scaled_main m _ l la lc a b width k x w hm0 hl0 hll hask f0 f1 f2 f3 f4 f5 (fun o ho => ?_) (fun o ho => ?_) hM.k24 hM.o12 bl is n kn c p so er e1 e2 lbl e3 e4 bn0 bn1 bc0 bc1 bp0 bp1 hwi hde
    · have h := isOff_iff (hM.ks o ho)
      exact ⟨known_free hok ho, h.w0, h.w1⟩
    · have h := isOff_iff (hM.os o ho)
      exact ⟨h.c0, h.c1, h.w0, h.w1⟩
end Go.Proofs.Ytjdldmecjhddnaa
