/- The contract of (want).least. -/
import Derived.Test.YtjdldmecjhddnaaK7
namespace Go.Proofs.Ytjdldmecjhddnaa
open Go.RowKit
set_option linter.unusedVariables false
set_option linter.unusedSimpArgs false

/-- What lies in memory while the least choice is sought: the wish, the market, the best choice. -/
structure LB (W : World) (B : Nat) (fv c0 c1 c2 : Value) (b : Bool) (c s : Int) : Prop where
  f : W.cell? ⟨B, 0, none⟩ = some fv
  m0 : W.cell? ⟨B + 1, 0, none⟩ = some c0
  m1 : W.cell? ⟨B + 1, 1, none⟩ = some c1
  m2 : W.cell? ⟨B + 1, 2, none⟩ = some c2
  b0 : W.cell? ⟨B + 1 + 1, 0, none⟩ = some (.bool b)
  b1 : W.cell? ⟨B + 1 + 1, 1, none⟩ = some (.int .i64 c)
  b2 : W.cell? ⟨B + 1 + 1, 2, none⟩ = some (.int .i64 s)
  z0 : W.frozen? ⟨B + 1 + 1, 0, none⟩ = false
  z1 : W.frozen? ⟨B + 1 + 1, 1, none⟩ = false
  z2 : W.frozen? ⟨B + 1 + 1, 2, none⟩ = false
theorem LB.below {W W' : World} {B : Nat} {fv c0 c1 c2 : Value} {b : Bool} {c s : Int} (h : LB W B fv c0 c1 c2 b c s) (hb : Below W.heap.size W W') : LB W' B fv c0 c1 c2 b c s :=
  have hz : ∀ i, W.frozen? ⟨B + 1 + 1, i, none⟩ = false → W'.frozen? ⟨B + 1 + 1, i, none⟩ = false := fun i hi => (hb.frozen (p := ⟨B + 1 + 1, i, none⟩) (World.block_lt_of_cell? W ⟨B + 1 + 1, 0, none⟩ h.b0)).trans hi
  ⟨below_cell hb h.f, below_cell hb h.m0, below_cell hb h.m1, below_cell hb h.m2, below_cell hb h.b0, below_cell hb h.b1, below_cell hb h.b2, hz _ h.z0, hz _ h.z1, hz _ h.z2⟩
theorem LB.put {W : World} {B : Nat} {fv c0 c1 c2 : Value} {b : Bool} {c s : Int} (h : LB W B fv c0 c1 c2 b c s) (b' : Bool) (c' s' : Int) :
    LB (((W.setCell ⟨B + 1 + 1, 0, none⟩ (.bool b')).setCell ⟨B + 1 + 1, 1, none⟩ (.int .i64 c')).setCell ⟨B + 1 + 1, 2, none⟩ (.int .i64 s')) B fv c0 c1 c2 b' c' s' := by
  have far : ∀ (X : World) (i n j : Nat) (v u : Value), n ≠ B + 1 + 1 → X.cell? ⟨n, j, none⟩ = some v → (X.setCell ⟨B + 1 + 1, i, none⟩ u).cell? ⟨n, j, none⟩ = some v := by
    intro X i n j v u hn hv
    rw [World.cell?_setCell_other _ _ _ _ (by intro e; injection e with e _; exact hn e.symm)]; exact hv
  have oth : ∀ (X : World) (i j : Nat) (v u : Value), i ≠ j → X.cell? ⟨B + 1 + 1, j, none⟩ = some v → (X.setCell ⟨B + 1 + 1, i, none⟩ u).cell? ⟨B + 1 + 1, j, none⟩ = some v := by
    intro X i j v u hn hv
    rw [World.cell?_setCell_other _ _ _ _ (by intro e; injection e with _ e; exact hn e)]; exact hv
  refine ⟨far _ _ _ _ _ _ (by omega) (far _ _ _ _ _ _ (by omega) (far _ _ _ _ _ _ (by omega) h.f)), far _ _ _ _ _ _ (by omega) (far _ _ _ _ _ _ (by omega) (far _ _ _ _ _ _ (by omega) h.m0)),
    far _ _ _ _ _ _ (by omega) (far _ _ _ _ _ _ (by omega) (far _ _ _ _ _ _ (by omega) h.m1)), far _ _ _ _ _ _ (by omega) (far _ _ _ _ _ _ (by omega) (far _ _ _ _ _ _ (by omega) h.m2)), ?_, ?_, ?_, by simp [h.z0], by simp [h.z1], by simp [h.z2]⟩
  · exact oth _ _ _ _ _ (by omega) (oth _ _ _ _ _ (by omega) (World.cell?_setCell_same _ _ _ h.b0))
  · exact oth _ _ _ _ _ (by omega) (World.cell?_setCell_same _ _ _ (oth _ _ _ _ _ (by omega) h.b1))
  · exact World.cell?_setCell_same _ _ _ (oth _ _ _ _ _ (by omega) (oth _ _ _ _ _ (by omega) h.b2))

/-- The best choice so far, as three values. -/
def chB : Option Nat → Bool | none => false | some _ => true
def chC (os : List Off) : Option Nat → Int | none => 0 | some s => costL os (bits 12 s)
def chS : Option Nat → Nat | none => 0 | some s => s
theorem pow_len {m : Mk} (hok : m.ok = true) : 2 ^ m.os.length ≤ 4096 := Nat.pow_le_pow_right (n := 2) (by decide) (okM hok).o12
theorem shl_len (n : Nat) (h : n ≤ 12) : wrap64 (2 ^ min n 64) = ((2 ^ n : Nat) : Int) := by
  rw [Nat.min_eq_left (by omega)]
  have hp : 2 ^ n ≤ 2 ^ 12 := Nat.pow_le_pow_right (by decide) h
  have : ((2 : Int) ^ n) = ((2 ^ n : Nat) : Int) := by simp
  rw [this]
  generalize 2 ^ n = z at hp
  unfold wrap64; omega

set_option maxHeartbeats 4000000 in
set_option maxRecDepth 100000 in
theorem k_least (m : Mk) (mv fv : Value) (p : Nat → Bool) (w : World) (hm : MkRd w m mv) (hok : m.ok = true) (hw : Want w fv p (2 ^ m.os.length)) :
    Calls Try.prog 70 #[.agg #[fv], mv] w fun e w' => e = .returned (.agg #[.bool (chB (leastS m.os p)), .int .i64 (chC m.os (leastS m.os p)), .int .i64 (chS (leastS m.os p))]) ∧ Below w.heap.size w w' := by
  have HM := Lib.hid hm
  have HW := Lib.hid hw
  obtain ⟨ka, kc, oa, oc, rfl, _⟩ := hm
  obtain ⟨g, cb, rfl, eg, hcall⟩ := hw
  unfold Enters at eg
  have HC := Lib.hid hcall
  have HOK := Lib.hid hok
  have hsh := shl_len m.os.length (okM hok).o12
  have hpl := pow_len hok
  have hpos : 0 < 2 ^ m.os.length := Nat.two_pow_pos _
  obtain ⟨N, hN⟩ : ∃ N, N = 2 ^ m.os.length := ⟨_, rfl⟩
  rw [← hN] at hsh hpl hpos HC
  have HN := Lib.hid hN
  clear hcall hok hN
  go_enter Try.func70, Try.ntmps70
  go_wp2_with fail
  simp only [hsh]
  clear hsh
  have hBB : Below w.heap.size w (((w.alloc (.cells #[.func (.func g) #[] cb] 90)).alloc (.cells #[.int .i64 m.n, .slice ka m.ks.length kc, .slice oa m.os.length oc] 24)).alloc (.cells #[.bool false, .int .i64 0, .int .i64 0] 101)) := bal (bal (bal (Below.refl _ _) _) _) _
  have hL : LB (((w.alloc (.cells #[.func (.func g) #[] cb] 90)).alloc (.cells #[.int .i64 m.n, .slice ka m.ks.length kc, .slice oa m.os.length oc] 24)).alloc (.cells #[.bool false, .int .i64 0, .int .i64 0] 101)) w.heap.size (.func (.func g) #[] cb) (.int .i64 m.n) (.slice ka m.ks.length kc) (.slice oa m.os.length oc) (chB (leastN m.os p 0)) (chC m.os (leastN m.os p 0)) (chS (leastN m.os p 0)) :=
    ⟨cal (cal (by simp) _) _, cal (by simp) _, cal (by simp) _, cal (by simp) _, cnew (by simp) rfl, cnew (by simp) rfl, cnew (by simp) rfl, by simp [go_sem], by simp [go_sem], by simp [go_sem]⟩
  go_loopw [11] (fun i wr => ∃ k : Nat, k ≤ N ∧ i = .int .i64 k ∧ Hid (LB wr w.heap.size (.func (.func g) #[] cb) (.int .i64 m.n) (.slice ka m.ks.length kc) (.slice oa m.os.length oc) (chB (leastN m.os p k)) (chC m.os (leastN m.os p k)) (chS (leastN m.os p k))) ∧ Below w.heap.size w wr) (fun i _ => N - (intOf i).toNat)
  case atStart => exact ⟨0, Nat.zero_le _, rfl, hL, hBB⟩
  case round =>
    clear hBB hL
    obtain ⟨k, hk, rfl, hL, hB⟩ := hrel
    by_cases hlt : k < N
    · obtain ⟨lo, hlo⟩ : ∃ lo, lo = leastN m.os p k := ⟨_, rfl⟩
      rw [← hlo] at hL
      have HLO := Lib.hid hlo
      clear hlo
      have hL' := hL.out
      obtain ⟨f, m0, m1, m2, b0, b1, b2, z0, z1, z2⟩ := hL'
      go_wp2_with fail
      refine (k_cost k m _ _ (HM.out.below hB) HOK.out (by rw [← HN.out]; exact hlt)).mono ?_
      rintro e w1 ⟨rfl, hb1⟩
      have hB1 := bthen hB hb1
      have HB1 := Lib.hid (bal hB1 (.cells #[.bool true, .int .i64 (costL m.os (bits 12 k)), .int .i64 k] 101))
      clear f m0 m1 m2 b0 b1 b2 z0 z1 z2
      cases lo with
      | none =>
        have hL1 : LB w1 w.heap.size (.func (.func g) #[] cb) (.int .i64 m.n) (.slice ka m.ks.length kc) (.slice oa m.os.length oc) false 0 0 := hL.out.below hb1
        have HL1 := Lib.hid (hL1.below (bal (Below.refl _ _) (.cells #[.bool true, .int .i64 (costL m.os (bits 12 k)), .int .i64 k] 101)))
        obtain ⟨f, m0, m1, m2, b0, b1, b2, z0, z1, z2⟩ := hL1
        have hsz : w.heap.size + 1 + 1 < w1.heap.size := World.block_lt_of_cell? w1 _ b0
        have hsz1 : w.heap.size + 1 < w1.heap.size := by omega
        have hsz0 : w.heap.size < w1.heap.size := by omega
        go_wp2_with fail
        clear f m0 m1 m2 b0 b1 b2 z0 z1 z2
        cases hp : p k with
        | true =>
          have HP := Lib.hid hp
          clear hp
          refine (HC.out _ k (HB1.out) hlt).mono ?_
          rintro e w2 ⟨rfl, hb2⟩
          rw [HP.out]
          have hL3 : LB w2 w.heap.size (.func (.func g) #[] cb) (.int .i64 m.n) (.slice ka m.ks.length kc) (.slice oa m.os.length oc) false 0 0 := HL1.out.below hb2
          have hB2 := bthen HB1.out hb2
          have d0 := below_cell hb2 (show (w1.alloc (.cells #[.bool true, .int .i64 (costL m.os (bits 12 k)), .int .i64 k] 101)).cell? ⟨w1.heap.size, 0, none⟩ = some (.bool true) from by simp)
          have d1 := below_cell hb2 (show (w1.alloc (.cells #[.bool true, .int .i64 (costL m.os (bits 12 k)), .int .i64 k] 101)).cell? ⟨w1.heap.size, 1, none⟩ = some (.int .i64 (costL m.os (bits 12 k))) from by simp)
          have d2 := below_cell hb2 (show (w1.alloc (.cells #[.bool true, .int .i64 (costL m.os (bits 12 k)), .int .i64 k] 101)).cell? ⟨w1.heap.size, 2, none⟩ = some (.int .i64 k) from by simp)
          have hput := Lib.hid (hL3.put true (costL m.os (bits 12 k)) k)
          obtain ⟨f, m0, m1, m2, b0, b1, b2, z0, z1, z2⟩ := hL3
          have hB3 := Lib.hid (((hB2.setCell (p := ⟨w.heap.size + 1 + 1, 0, none⟩) (by simp; omega) (.bool true)).setCell (p := ⟨w.heap.size + 1 + 1, 1, none⟩) (by simp; omega) (.int .i64 (costL m.os (bits 12 k)))).setCell (p := ⟨w.heap.size + 1 + 1, 2, none⟩) (by simp; omega) (.int .i64 k))
          go_wp2
          go_roundw
          case rel => exact ⟨k + 1, by omega, by go_num, by rw [leastN_none_yes HLO.out HP.out]; exact hput.out, hB3.out⟩
          case measure => simp [intOf]; omega
        | false =>
          have HP := Lib.hid hp
          clear hp
          refine (HC.out _ k (HB1.out) hlt).mono ?_
          rintro e w2 ⟨rfl, hb2⟩
          rw [HP.out]
          have hL3 : LB w2 w.heap.size (.func (.func g) #[] cb) (.int .i64 m.n) (.slice ka m.ks.length kc) (.slice oa m.os.length oc) false 0 0 := HL1.out.below hb2
          have HL3 := Lib.hid hL3
          have hB2 := bthen HB1.out hb2
          obtain ⟨f, m0, m1, m2, b0, b1, b2, z0, z1, z2⟩ := hL3
          go_wp2
          go_roundw
          case rel => exact ⟨k + 1, by omega, by go_num, by rw [leastN_none_no HLO.out HP.out]; exact HL3.out, hB2⟩
          case measure => simp [intOf]; omega
      | some b =>
        have hb4 : b < 4096 := by have := (leastN_lt _ _ _ _ HLO.out.symm).1; omega
        have hL1 : LB w1 w.heap.size (.func (.func g) #[] cb) (.int .i64 m.n) (.slice ka m.ks.length kc) (.slice oa m.os.length oc) true (costL m.os (bits 12 b)) b := hL.out.below hb1
        have HL1 := Lib.hid (hL1.below (bal (Below.refl _ _) (.cells #[.bool true, .int .i64 (costL m.os (bits 12 k)), .int .i64 k] 101)))
        obtain ⟨f, m0, m1, m2, b0, b1, b2, z0, z1, z2⟩ := hL1
        have hsz : w.heap.size + 1 + 1 < w1.heap.size := World.block_lt_of_cell? w1 _ b0
        have hsz1 : w.heap.size + 1 < w1.heap.size := by omega
        have hsz0 : w.heap.size < w1.heap.size := by omega
        go_wp2_with fail
        clear f m0 m1 m2 b0 b1 b2 z0 z1 z2
        have hB2 : Below w.heap.size w _ := HB1.out
        cases hbf : bef (costL m.os (bits 12 k)) k (costL m.os (bits 12 b)) b with
        | true =>
          have HBF := Lib.hid hbf
          clear hbf
          refine (k_before _ _ _ _ k b (by omega) hb4 _).mono ?_
          rintro e w2 ⟨rfl, hb2⟩
          rw [HBF.out]
          have hL2 := HL1.out.below hb2
          have HL2 := Lib.hid hL2
          have hB2' := bthen hB2 hb2
          obtain ⟨f, m0, m1, m2, b0, b1, b2, z0, z1, z2⟩ := hL2
          go_wp2_with fail
          clear f m0 m1 m2 b0 b1 b2 z0 z1 z2
          cases hp : p k with
          | true =>
            have HP := Lib.hid hp
            clear hp
            refine (HC.out _ k hB2' hlt).mono ?_
            rintro e w3 ⟨rfl, hb3⟩
            rw [HP.out]
            have hL3 := HL2.out.below hb3
            have hB3 := bthen hB2' hb3
            have d0 := below_cell hb3 (below_cell hb2 (show (w1.alloc (.cells #[.bool true, .int .i64 (costL m.os (bits 12 k)), .int .i64 k] 101)).cell? ⟨w1.heap.size, 0, none⟩ = some (.bool true) from by simp))
            have d1 := below_cell hb3 (below_cell hb2 (show (w1.alloc (.cells #[.bool true, .int .i64 (costL m.os (bits 12 k)), .int .i64 k] 101)).cell? ⟨w1.heap.size, 1, none⟩ = some (.int .i64 (costL m.os (bits 12 k))) from by simp))
            have d2 := below_cell hb3 (below_cell hb2 (show (w1.alloc (.cells #[.bool true, .int .i64 (costL m.os (bits 12 k)), .int .i64 k] 101)).cell? ⟨w1.heap.size, 2, none⟩ = some (.int .i64 k) from by simp))
            have hput := Lib.hid (hL3.put true (costL m.os (bits 12 k)) k)
            obtain ⟨f, m0, m1, m2, b0, b1, b2, z0, z1, z2⟩ := hL3
            have hB3' := Lib.hid (((hB3.setCell (p := ⟨w.heap.size + 1 + 1, 0, none⟩) (by simp; omega) (.bool true)).setCell (p := ⟨w.heap.size + 1 + 1, 1, none⟩) (by simp; omega) (.int .i64 (costL m.os (bits 12 k)))).setCell (p := ⟨w.heap.size + 1 + 1, 2, none⟩) (by simp; omega) (.int .i64 k))
            go_wp2
            go_roundw
            case rel => exact ⟨k + 1, by omega, by go_num, by rw [leastN_some_yes HLO.out HBF.out HP.out]; exact hput.out, hB3'.out⟩
            case measure => simp [intOf]; omega
          | false =>
            have HP := Lib.hid hp
            clear hp
            refine (HC.out _ k hB2' hlt).mono ?_
            rintro e w3 ⟨rfl, hb3⟩
            rw [HP.out]
            have hL3 := HL2.out.below hb3
            have hB3 := bthen hB2' hb3
            have HL3 := Lib.hid hL3
            obtain ⟨f, m0, m1, m2, b0, b1, b2, z0, z1, z2⟩ := hL3
            go_wp2
            go_roundw
            case rel => exact ⟨k + 1, by omega, by go_num, by rw [leastN_some_no HLO.out (by rw [HBF.out, HP.out]; rfl)]; exact HL3.out, hB3⟩
            case measure => simp [intOf]; omega
        | false =>
          have HBF := Lib.hid hbf
          clear hbf
          refine (k_before _ _ _ _ k b (by omega) hb4 _).mono ?_
          rintro e w2 ⟨rfl, hb2⟩
          rw [HBF.out]
          have hL2 := HL1.out.below hb2
          have HL2 := Lib.hid hL2
          have hB2' := bthen hB2 hb2
          obtain ⟨f, m0, m1, m2, b0, b1, b2, z0, z1, z2⟩ := hL2
          go_wp2
          go_roundw
          case rel => exact ⟨k + 1, by omega, by go_num, by rw [leastN_some_no HLO.out (by rw [HBF.out]; rfl)]; exact HL2.out, hB2'⟩
          case measure => simp [intOf]; omega
    · obtain rfl : k = N := by omega
      have hE : Hid (leastN m.os p k = leastS m.os p) := Lib.hid (by rw [leastS, HN.out])
      have hL' := hL.out
      rw [hE.out] at hL'
      obtain ⟨f, m0, m1, m2, b0, b1, b2, z0, z1, z2⟩ := hL'
      have hput := hE.out ▸ (hL.out.put (chB (leastN m.os p k)) (chC m.os (leastN m.os p k)) (chS (leastN m.os p k)))
      have q0 := hput.b0
      have q1 := hput.b1
      have q2 := hput.b2
      clear hput
      go_wp2
      refine bodyPost_ret (v := .agg #[.bool (chB (leastS m.os p)), .int .i64 (chC m.os (leastS m.os p)), .int .i64 (chS (leastS m.os p))]) (by simp [results, Try.results70, go_sem, q0, q1, q2]) rfl ⟨rfl, ?_⟩
      exact ((hB.setCell (by simp; omega) _).setCell (by simp; omega) _).setCell (by simp; omega) _
end Go.Proofs.Ytjdldmecjhddnaa
