/- The contract of keeper.widths. -/
import Derived.Test.YtjdldmecjhddnaaK4
namespace Go.Proofs.Ytjdldmecjhddnaa
open Go.RowKit
set_option linter.unusedVariables false
set_option linter.unusedSimpArgs false

def dg (d : Nat → Nat → Int) (k : Nat) : Nat → Nat → Int := fun i j => if i = j ∧ i < k then 0 else d i j
theorem Bd.dg {n : Nat} {d : Nat → Nat → Int} (h : Bd n d) (k : Nat) : Bd n (dg d k) := by
  intro i j hi hj
  unfold Go.Proofs.Ytjdldmecjhddnaa.dg
  split
  · omega
  · exact h i j hi hj
theorem rlx_congr {n : Nat} {d e : Nat → Nat → Int} (h : ∀ i j, i < n → j < n → d i j = e i j) {c a b : Nat} (hc : c < n) (ha : a < n) (hb : b < n) : ∀ i j, i < n → j < n → rlx d c a b i j = rlx e c a b i j := by
  intro i j hi hj
  unfold rlx upd
  rw [h a c ha hc, h c b hc hb, h a b ha hb, h i j hi hj]
theorem rlxB_congr {n : Nat} {d e : Nat → Nat → Int} (h : ∀ i j, i < n → j < n → d i j = e i j) {c a : Nat} (hc : c < n) (ha : a < n) : ∀ k, k ≤ n → ∀ i j, i < n → j < n → rlxB d c a k i j = rlxB e c a k i j
  | 0, _ => h
  | k + 1, hk => rlx_congr (rlxB_congr h hc ha k (by omega)) hc ha (by omega)
theorem rlxA_congr {n : Nat} {d e : Nat → Nat → Int} (h : ∀ i j, i < n → j < n → d i j = e i j) {c : Nat} (hc : c < n) : ∀ k, k ≤ n → ∀ i j, i < n → j < n → rlxA n d c k i j = rlxA n e c k i j
  | 0, _ => h
  | k + 1, hk => rlxB_congr (rlxA_congr h hc k (by omega)) hc (by omega) n (Nat.le_refl _)
theorem fwN_congr {n : Nat} {d e : Nat → Nat → Int} (h : ∀ i j, i < n → j < n → d i j = e i j) : ∀ k, k ≤ n → ∀ i j, i < n → j < n → fwN n d k i j = fwN n e k i j
  | 0, _ => h
  | k + 1, hk => rlxA_congr (fwN_congr h k (by omega)) (by omega) n (Nat.le_refl _)

set_option maxHeartbeats 2000000 in
set_option maxRecDepth 100000 in
theorem widths_of (n : Nat) (ka oa : Option Addr) (kl kc ol oc : Nat) (s : Int) (d : Nat → Nat → Int) (w : World) (hn : n ≤ 8) (hn1 : 2 ≤ n) (hB : Bd n d)
    (hs : ∀ W, Below w.heap.size w W → Calls Try.prog 103 #[.agg #[.int .i64 n, .slice ka kl kc, .slice oa ol oc], .int .i64 s] W fun e w' => ∃ v, e = .returned v ∧ Tab w' W.heap.size v n d ∧ Below W.heap.size W w') :
    Calls Try.prog 75 #[.agg #[.int .i64 n, .slice ka kl kc, .slice oa ol oc], .int .i64 s] w fun e w' => ∃ v, e = .returned v ∧ Tab w' w.heap.size v n (fwN n (dg d n) n) ∧ Below w.heap.size w w' := by
  have HS := Lib.hid hs
  clear hs
  go_enter Try.func75, Try.ntmps75
  go_wp2_with fail
  refine (HS.out _ ((Below.refl _ _).alloc (Nat.le_refl _) _)).mono ?_
  rintro e w1 ⟨v, rfl, ⟨g, cap, f, c, rfl, hT⟩, hb⟩
  clear HS
  have hm : w1.cell? ⟨w.heap.size, 0, none⟩ = some (.int .i64 n) := (hb.cell (by simp)).trans (by simp)
  have hz : w.heap.size + 1 ≤ w1.heap.size := by have := hb.size; simpa using this
  have hB1 : Below w.heap.size w w1 := ((Below.refl _ _).alloc (Nat.le_refl _) _).trans (hb.mono (by simp))
  replace hT : TabF w1 (w.heap.size + 1) g f c n d := by simpa using hT
  clear hb
  go_wp2_with fail
  go_loopw [16] (fun i wr => ∃ k : Nat, k ≤ n ∧ i = .int .i64 k ∧ TabF wr (w.heap.size + 1) g f c n (dg d k) ∧ wr.cell? ⟨w.heap.size, 0, none⟩ = some (.int .i64 n) ∧ Below w.heap.size w wr) (fun i _ => n - (intOf i).toNat)
  case atStart => exact ⟨0, Nat.zero_le _, rfl, hT.congr (fun a b _ _ => by simp [dg]), hm, hB1⟩
  case round =>
    obtain ⟨k, hk, rfl, hT1, hm1, hB2⟩ := hrel
    clear hT hm hB1 hz
    by_cases hlt : k < n
    · have h1 := hT1.row k hlt
      have h2 := hT1.cell k k hlt hlt
      have h3 := hT1.free k k hlt hlt
      go_wp2
      go_roundw
      case rel =>
        refine ⟨k + 1, by omega, by go_num, (hT1.set hlt hlt 0).congr ?_, ?_, hB2.setCell (by have := (hT1.hf k hlt).1; show w.heap.size ≤ f k; omega) _⟩
        · intro a b ha hb
          unfold upd dg
          split <;> split <;> (try rfl) <;> (try omega)
        · rw [World.cell?_setCell_other]
          · exact hm1
          · intro e; injection e with e1; have := (hT1.hf k hlt).1; omega
      case measure => simp [intOf]; omega
    · obtain rfl : k = n := by omega
      obtain ⟨D, hD⟩ : ∃ D, D = dg d k := ⟨_, rfl⟩
      have hBD : Bd k D := hD ▸ hB.dg k
      have HD := Lib.hid hD
      rw [← hD] at hT1
      clear hB hlt hk hD
      have HBD := Lib.hid hBD
      clear hBD
      obtain ⟨w2, rfl⟩ : ∃ w2 : World, w2 = wr := ⟨_, rfl⟩
      go_wp2
      go_loopw [28] (fun i wr => ∃ c1 : Nat, c1 ≤ k ∧ i = .int .i64 c1 ∧ TabF wr (w.heap.size + 1) g f c k (fwN k D c1) ∧ wr.cell? ⟨w.heap.size, 0, none⟩ = some (.int .i64 k) ∧ Below w.heap.size w wr) (fun i _ => k - (intOf i).toNat)
      case atStart => exact ⟨0, Nat.zero_le _, rfl, hT1, hm1, hB2⟩
      case round =>
        clear hT1 hm1 hB2
        obtain ⟨c1, hc1, rfl, hT1, hm1, hB2⟩ := hrel
        by_cases hlt : c1 < k
        · have HBD1 := Lib.hid (HBD.out.fwN c1 (by omega))
          obtain ⟨D1, hD1⟩ : ∃ D1, D1 = fwN k D c1 := ⟨_, rfl⟩
          rw [← hD1] at hT1 HBD1
          have HD1 := Lib.hid hD1
          clear hD1
          obtain ⟨w3, rfl⟩ : ∃ w3 : World, w3 = wr := ⟨_, rfl⟩
          go_wp2
          go_loopw [33] (fun i wr => ∃ a1 : Nat, a1 ≤ k ∧ i = .int .i64 a1 ∧ TabF wr (w.heap.size + 1) g f c k (rlxA k D1 c1 a1) ∧ wr.cell? ⟨w.heap.size, 0, none⟩ = some (.int .i64 k) ∧ Below w.heap.size w wr) (fun i _ => k - (intOf i).toNat)
          case atStart => exact ⟨0, Nat.zero_le _, rfl, hT1, hm1, hB2⟩
          case round =>
            clear hT1 hm1 hB2
            obtain ⟨a1, ha1, rfl, hT1, hm1, hB2⟩ := hrel
            by_cases hlt2 : a1 < k
            · have HBD2 := Lib.hid (HBD1.out.rlxA hlt a1 (by omega))
              obtain ⟨D2, hD2⟩ : ∃ D2, D2 = rlxA k D1 c1 a1 := ⟨_, rfl⟩
              rw [← hD2] at hT1 HBD2
              have HD2 := Lib.hid hD2
              clear hD2
              obtain ⟨w4, rfl⟩ : ∃ w4 : World, w4 = wr := ⟨_, rfl⟩
              go_wp2
              go_loopw [38] (fun i wr => ∃ b1 : Nat, b1 ≤ k ∧ i = .int .i64 b1 ∧ TabF wr (w.heap.size + 1) g f c k (rlxB D2 c1 a1 b1) ∧ wr.cell? ⟨w.heap.size, 0, none⟩ = some (.int .i64 k) ∧ Below w.heap.size w wr) (fun i _ => k - (intOf i).toNat)
              case atStart => exact ⟨0, Nat.zero_le _, rfl, hT1, hm1, hB2⟩
              case round =>
                clear hT1 hm1 hB2
                obtain ⟨b1, hb1, rfl, hT1, hm1, hB2⟩ := hrel
                by_cases hlt3 : b1 < k
                · have hbd := HBD2.out.rlxB hlt hlt2 b1 (by omega)
                  obtain ⟨D3, hD3⟩ : ∃ D3, D3 = rlxB D2 c1 a1 b1 := ⟨_, rfl⟩
                  rw [← hD3] at hT1 hbd
                  have HD3 := Lib.hid hD3
                  clear hD3
                  have h1 := hT1.row a1 hlt2
                  have h2 := hT1.row c1 hlt
                  have h3 := hT1.cell a1 c1 hlt2 hlt
                  have h4 := hT1.cell c1 b1 hlt hlt3
                  have h5 := hT1.cell a1 b1 hlt2 hlt3
                  have h6 := hT1.free a1 b1 hlt2 hlt3
                  obtain ⟨p1, p2⟩ := hbd a1 c1 hlt2 hlt
                  obtain ⟨q1, q2⟩ := hbd c1 b1 hlt hlt3
                  clear hbd
                  go_wp2
                  go_quiet (fail)
                  go_wp2
                  · go_roundw
                    case rel =>
                      have hlt4 : D3 a1 c1 + D3 c1 b1 < D3 a1 b1 := by assumption
                      refine ⟨b1 + 1, by omega, by go_num, ?_, ?_, (bdrN hB2 nq).setCell (by have := (hT1.hf a1 hlt2).1; show w.heap.size ≤ f a1; omega) _⟩
                      · show TabF _ _ _ _ _ _ (rlx (rlxB D2 c1 a1 b1) c1 a1 b1)
                        rw [← HD3.out]
                        refine ((hT1.drewN nq).set hlt2 hlt3 _).congr ?_
                        intro x y _ _
                        rw [rlx, if_pos hlt4]
                      · rw [World.cell?_setCell_other]
                        · simpa using hm1
                        · intro e; injection e with e1; have := (hT1.hf a1 hlt2).1; omega
                    case measure => simp [intOf]; omega
                  · go_roundw
                    case rel =>
                      have hlt4 : D3 a1 b1 ≤ D3 a1 c1 + D3 c1 b1 := by assumption
                      refine ⟨b1 + 1, by omega, by go_num, ?_, by simpa using hm1, bdrN hB2 nq⟩
                      show TabF _ _ _ _ _ _ (rlx (rlxB D2 c1 a1 b1) c1 a1 b1)
                      rw [← HD3.out]
                      refine (hT1.drewN nq).congr ?_
                      intro x y _ _
                      rw [rlx, if_neg (by omega), upd]
                      split
                      · rename_i h; rw [h.1, h.2]
                      · rfl
                    case measure => simp [intOf]; omega
                · obtain rfl : b1 = k := by omega
                  go_wp2
                  go_roundw
                  case rel => exact ⟨a1 + 1, by omega, by go_num, by simpa [rlxA, HD2.out] using hT1, hm1, hB2⟩
                  case measure => simp [intOf]; omega
            · obtain rfl : a1 = k := by omega
              go_wp2
              go_roundw
              case rel => exact ⟨c1 + 1, by omega, by go_num, by simpa [fwN, HD1.out] using hT1, hm1, hB2⟩
              case measure => simp [intOf]; omega
        · obtain rfl : c1 = k := by omega
          go_wp2
          go_ret
          exact ⟨_, rfl, ⟨_, _, _, _, rfl, by have := HD.out; subst this; exact ⟨by have := hT1.hg; omega, fun a ha => ⟨by have := (hT1.hf a ha).1; omega, (hT1.hf a ha).2⟩, hT1.inj, hT1.row, hT1.cell, hT1.free⟩⟩, hB2⟩

theorem k_widths (s : Nat) (n : Nat) (ks os : List Off) (mv : Value) (w : World) (hm : MkRd w ⟨n, ks, os⟩ mv) (hok : Mk.ok ⟨n, ks, os⟩ = true) (hs : s < 2 ^ os.length) :
    Calls Try.prog 75 #[mv, .int .i64 s] w fun e w' => ∃ v, e = .returned v ∧ Tab w' w.heap.size v n (wd n (comps ⟨n, ks, os⟩ (bits 12 s))) ∧ Below w.heap.size w w' := by
  have HM := hm
  obtain ⟨ka, kc, oa, oc, rfl, hk, ho, hkl, hol⟩ := hm
  have OK := okM hok
  have hW : ∀ o ∈ comps ⟨n, ks, os⟩ (bits 12 s), 0 ≤ o.W := by
    intro o ho
    rcases List.mem_append.1 ho with h | h
    · exact (isOff_iff (OK.ks o h)).w0
    · exact (isOff_iff (OK.os o (sel_mem (bits_mem (k := 12) hs) o h))).w0
  refine (widths_of n ka oa ks.length kc os.length oc s (stp (comps ⟨n, ks, os⟩ (bits 12 s))) w (by have := OK.n8; simp at this; omega) (by have := OK.n2; simp at this; omega) (fun a b _ _ => stp_bd _ hW a b)
    (fun W hW => k_steps s n ks os _ W (HM.below hW) hok hs)).mono ?_
  rintro e w' ⟨v, rfl, ⟨g, cap, f, c, rfl, hT⟩, hb⟩
  refine ⟨_, rfl, ⟨_, _, _, _, rfl, hT.congr ?_⟩, hb⟩
  intro a b ha hb
  refine fwN_congr (fun i j hi hj => ?_) n (Nat.le_refl _) a b ha hb
  unfold dg stp0
  by_cases e : i = j <;> simp [e] <;> intro <;> omega
end Go.Proofs.Ytjdldmecjhddnaa
