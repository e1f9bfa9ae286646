/- The contracts of keeper.steps, keeper.widths. -/
import Derived.Test.YtjdldmecjhddnaaK3
import Derived.Test.YtjdldmecjhddnaaKMem2
import Derived.Deep.RegionHeld3
namespace Go.Proofs.Ytjdldmecjhddnaa
open Go.RowKit
set_option linter.unusedVariables false
set_option linter.unusedSimpArgs false

theorem steps_rel {w wr : World} {g n : Nat} {f c : Nat → Nat} {l : List Off} {la : Option Addr} {r : List Off} {k x y q : Nat} {C W z : Int} {cs : Array Value} {t : TypeId} (hT : TabF wr (w.heap.size + 1) g f c n (stp (l.take k))) (hxn : x < n) (hyn : y < n) (hxy : x ≠ y)
    (hx : l[k]? = some ⟨x, y, C, W⟩) (hz : z = if W < stp (l.take k) x y then W else stp (l.take k) x y) (hrd : RdO wr la l) (hB : Below w.heap.size w wr) (hlb : ∀ ad, la = some ad → ∀ p, p = g ∨ (∃ a, a < n ∧ p = f a) → ad.block ≠ p) :
    TabF ((((wr.alloc (.cells cs t)).drewN q).setCell ⟨f x, y, none⟩ (.int .i64 z)).setCell ⟨f y, x, none⟩ (.int .i64 z)) (w.heap.size + 1) g f c n (stp (l.take (k + 1))) ∧
    RdO ((((wr.alloc (.cells cs t)).drewN q).setCell ⟨f x, y, none⟩ (.int .i64 z)).setCell ⟨f y, x, none⟩ (.int .i64 z)) la l ∧
    Below w.heap.size w ((((wr.alloc (.cells cs t)).drewN q).setCell ⟨f x, y, none⟩ (.int .i64 z)).setCell ⟨f y, x, none⟩ (.int .i64 z)) := by
  have h0 : Below wr.heap.size wr ((wr.alloc (.cells cs t)).drewN q) := bdrN (bal (Below.refl _ _) _) q
  have hfx := (hT.hf x hxn).1
  have hfy := (hT.hf y hyn).1
  refine ⟨(((hT.below h0).set hxn hyn z).set hyn hxn z).congr (fun i j _ _ => ?_), ((hrd.below h0).setOther _ ?_).setOther _ ?_, ((hB.trans (h0.mono hB.size)).setCell ?_ _).setCell ?_ _⟩
  · rw [take_snoc hx]
    exact stp_upd (o := ⟨x, y, C, W⟩) rfl rfl hxy z hz i j
  · intro ad e; exact hlb ad e _ (.inr ⟨x, hxn, rfl⟩)
  · intro ad e; exact hlb ad e _ (.inr ⟨y, hyn, rfl⟩)
  · show w.heap.size ≤ f x; omega
  · show w.heap.size ≤ f y; omega

set_option maxHeartbeats 2000000 in
set_option maxRecDepth 100000 in
theorem k_steps (s : Nat) (n : Nat) (ks os : List Off) (mv : Value) (w : World) (hm : MkRd w ⟨n, ks, os⟩ mv) (hok : Mk.ok ⟨n, ks, os⟩ = true) (hs : s < 2 ^ os.length) :
    Calls Try.prog 103 #[mv, .int .i64 s] w fun e w' => ∃ v, e = .returned v ∧ Tab w' w.heap.size v n (stp (comps ⟨n, ks, os⟩ (bits 12 s))) ∧ Below w.heap.size w w' := by
  obtain ⟨ka, kc, oa, oc, rfl, hk, ho, hkl, hol⟩ := hm
  have OK := okM hok
  clear hok
  have h2 : 2 ≤ n := by have := OK.n2; simp at this; omega
  have h8 : n ≤ 8 := by have := OK.n8; simp at this; omega
  have h24 : ks.length ≤ 24 := OK.k24
  have h12 : os.length ≤ 12 := OK.o12
  have HOK := Lib.hid OK
  clear OK
  simp only at hk ho hkl hol
  have hs12 : s < 4096 := Nat.lt_of_lt_of_le hs (Nat.pow_le_pow_right (n := 2) (by decide) h12)
  have HSB := Lib.hid (bits_mem (k := 12) hs)
  have hbl := bits_len 12 s
  go_enter Try.func103, Try.ntmps103
  go_wp2_with fail
  refine (k_blank n h2 h8 _).mono ?_
  rintro e w2 ⟨v, rfl, ⟨g, cap, f, c, rfl, hT⟩, hb⟩
  have hz2 : w.heap.size < w2.heap.size := by have := hb.size; simp at this; omega
  have hm1 : w2.cell? ⟨w.heap.size, 1, none⟩ = some (.slice ka ks.length kc) := below_cell hb (by simp)
  have hm2 : w2.cell? ⟨w.heap.size, 2, none⟩ = some (.slice oa os.length oc) := below_cell hb (by simp)
  have hB2 : Below w.heap.size w w2 := below_then (bal (Below.refl _ _) _) (by simp) hb
  replace hT : TabF w2 (w.heap.size + 1) g f c n (fun _ _ => 1099511627776) := by simpa using hT
  replace hk := hk.below hB2
  replace ho := ho.below hB2
  clear hb
  go_wp2_with fail
  refine (k_cloneO ks ka kc _ hk h24).mono ?_
  rintro e w3 ⟨v, rfl, hown, hB3⟩
  have hm2' := below_cell hB3 hm2
  go_wp2_with fail
  refine (k_list s hs12 _).mono ?_
  rintro e w4 ⟨lv, rfl, hown4, hB4⟩
  obtain ⟨la, lc, rfl, hrd⟩ := own_rdI hown4
  obtain ⟨L, hL⟩ : ∃ L, L = bits 12 s := ⟨_, rfl⟩
  rw [← hL] at hrd HSB hbl ⊢
  have hownL : w4.ownsRow w3.heap.size 3 1 (.slice la L.length lc) L.length (L.map (Value.int .i64)) := by rw [hL]; exact hown4
  have hown' : w4.ownsRow w2.heap.size 59 4 v (ks ++ sel os (L.take 0)).length ((ks ++ sel os (L.take 0)).flatMap encO) := by
    have : ks ++ sel os (L.take 0) = ks := by simp [sel]
    rw [this]
    exact hown.kept ⟨hB4.os, hB4.tape, hB4.output, hB4.size, fun i hi _ => hB4.block i hi⟩ (row := none) (by cases v.ownBlock <;> simp)
  have hB24 := bthen hB3 hB4
  have HL := Lib.hid hL
  clear hown hown4 hL hB3 hB4
  go_wp2_with fail
  go_loopw [6, 21] (fun v i wr => ∃ k : Nat, k ≤ L.length ∧ i = .int .i64 k ∧ wr.ownsRow w2.heap.size 59 4 v (ks ++ sel os (L.take k)).length ((ks ++ sel os (L.take k)).flatMap encO) ∧ wr.ownsRow w3.heap.size 3 1 (.slice la L.length lc) L.length (L.map (Value.int .i64)) ∧ Below w2.heap.size w2 wr) (fun _ i _ => L.length - (intOf i).toNat)
  case atStart => exact ⟨0, Nat.zero_le _, rfl, hown', hownL, hB24⟩
  case round =>
    clear hrd hown' hB24 hownL
    obtain ⟨k, hk1, rfl, hown, hownL, hB⟩ := hrel
    have hrd := own_rdS hownL
    have hsz := hB.size
    by_cases hlt : k < L.length
    · obtain ⟨b, off, x, rfl, hx, hc⟩ := hrd.ati hlt
      obtain ⟨h0, hx1⟩ := HSB.out x (List.mem_of_getElem? hx)
      obtain ⟨y, rfl⟩ := Int.eq_ofNat_of_zero_le h0
      have hy1 : y < os.length := by simp at hx1; omega
      obtain ⟨b2, off2, o, rfl, hox, q0, q1, q2, q3⟩ := (ho.below hB).ato hy1
      have hm3 := below_cell hB hm2
      have HX := Lib.hid hx
      have HO := Lib.hid hox
      have HLN := Lib.hid (show (ks ++ sel os (L.take k)).length = ks.length + k by rw [List.length_append, sel_len, List.length_take, Nat.min_eq_left (by omega)])
      clear hx hox hx1
      go_wp2_with (at_builtin; refine ap1 rfl _ _ 22 rfl w2.heap.size 59 (.agg #[.int .i64 0, .int .i64 0, .int .i64 0, .int .i64 0]) 4 32 info_off Try.underlying22 rfl (by decide) (by decide) _ _ _ rfl hown (encO o) rfl rfl rfl (by rw [HLN.out]; omega) hB.size ?_; intro v' w1 hown1 hgr hat hnn)
      go_roundw
      case rel =>
        refine ⟨k + 1, by omega, by go_num, ?_, ?_, hB.grown hgr hB.size (fun j e => (hown.lt j e).1)⟩
        · rw [take_snoc HX.out, sel_snoc, getD_of HO.out, ← List.append_assoc, List.flatMap_append, List.length_append]
          simpa [encO] using hown1
        · exact hownL.kept hgr (own_ne hownL hown (by decide))
      case measure => simp [intOf]; omega
    · obtain rfl : k = L.length := by omega
      simp only [List.take_length] at hown
      obtain ⟨la2, lc2, rfl, hrd2, hlb⟩ := own_rdb (enc := encO) (k := 4) (fun _ => rfl) hown
      have hall : ∀ o ∈ ks ++ sel os L, isOff o n 10000 = true := by
        intro o ho
        rcases List.mem_append.1 ho with h | h
        · exact isOff_mono (HOK.out.ks o h) (by omega)
        · exact HOK.out.os o (sel_mem HSB.out o h)
      have hlen : (ks ++ sel os L).length ≤ 36 := by rw [List.length_append, sel_len]; omega
      have hC : Hid (comps ⟨n, ks, os⟩ L = ks ++ sel os L) := Lib.hid rfl
      obtain ⟨l, hl⟩ : ∃ l, l = ks ++ sel os L := ⟨_, rfl⟩
      rw [← hl] at hrd2 hall hlen hC
      have HALL := Lib.hid hall
      have hT2 : TabF wr (w.heap.size + 1) g f c n (stp (l.take 0)) := hT.below hB
      have hB5 := bthen hB2 hB
      have hlt2 := hT.lt (by omega)
      have hlb2 : ∀ ad, la2 = some ad → ∀ p, p = g ∨ (∃ a, a < n ∧ p = f a) → ad.block ≠ p := by
        intro ad e p hp
        have := hlb ad e
        rcases hp with rfl | ⟨a, ha, rfl⟩
        · omega
        · have := hlt2.2 a ha; omega
      have HLB := Lib.hid hlb2
      simp only [← hl]
      clear hl hall hown hownL hrd hB hT hlb hlb2 hlt2 hlt hk1 hm1 hm2 hm2' ho hk
      obtain ⟨w6, rfl⟩ : ∃ w6 : World, w6 = wr := ⟨_, rfl⟩
      go_wp2_with fail
      go_loopw [36] (fun i wr => ∃ k : Nat, k ≤ l.length ∧ i = .int .i64 k ∧ TabF wr (w.heap.size + 1) g f c n (stp (l.take k)) ∧ RdO wr la2 l ∧ Below w.heap.size w wr) (fun i _ => l.length - (intOf i).toNat)
      case atStart => exact ⟨0, Nat.zero_le _, rfl, hT2, hrd2, hB5⟩
      case round =>
        clear hT2 hrd2 hB5
        obtain ⟨k, hk1, rfl, hT, hrd, hB⟩ := hrel
        by_cases hlt : k < l.length
        · obtain ⟨b, off, o, rfl, hx, q0, q1, q2, q3⟩ := hrd.ato hlt
          have hof := isOff_iff (HALL.out o (List.mem_of_getElem? hx))
          have HX := Lib.hid hx
          clear hx
          obtain ⟨A, B, C, W⟩ := o
          obtain ⟨a0, a1, b0, b1, hne, w0, w1', _, _⟩ := hof
          simp only at q0 q1 q2 q3 a0 a1 b0 b1 hne w0 w1'
          obtain ⟨x, rfl⟩ := Int.eq_ofNat_of_zero_le a0
          obtain ⟨y, rfl⟩ := Int.eq_ofNat_of_zero_le b0
          have hxn : x < n := by omega
          have hyn : y < n := by omega
          have hxy : x ≠ y := by omega
          obtain ⟨hgl, hfl⟩ := hT.lt (by omega)
          have hfx := hfl x hxn
          have hfy := hfl y hyn
          have h1 := hT.row x hxn
          have h2 := hT.row y hyn
          have h3 := hT.cell x y hxn hyn
          have h4 := hT.cell y x hyn hxn
          have h5 := hT.free x y hxn hyn
          have h6 := hT.free y x hyn hxn
          obtain ⟨D, hD⟩ : ∃ D, D = stp (l.take k) := ⟨_, rfl⟩
          rw [← hD] at hT h3 h4
          have HD := Lib.hid hD
          clear hD hfl a0 b0 hne
          have e1 : ¬ f x = g := (hT.hf x hxn).2
          have e2 : ¬ f y = g := (hT.hf y hyn).2
          have e3 : ¬ f x = wr.heap.size := by omega
          have e4 : ¬ f y = wr.heap.size := by omega
          have e5 : ¬ f x = f y := fun e => hxy (hT.inj _ _ hxn hyn e)
          have i1 : (0 : Int) ≤ (x : Int) := Int.natCast_nonneg _
          have i2 : (0 : Int) ≤ (y : Int) := Int.natCast_nonneg _
          by_cases hW : W < D x y
          · go_wp2
            go_quiet (fail)
            go_wp2
            go_region_held3 (fun w' => w'.cell? ⟨wr.heap.size, 0, none⟩ = some (.int .i64 x) ∧ w'.cell? ⟨wr.heap.size, 1, none⟩ = some (.int .i64 y) ∧ w'.cell? ⟨g, x, none⟩ = some (.slice (some ⟨f x, 0, none⟩) n (c x)) ∧ w'.cell? ⟨g, y, none⟩ = some (.slice (some ⟨f y, 0, none⟩) n (c y))) (go_keep) (fail)
            go_wp2
            go_roundw
            case rel =>
              rw [HD.out] at hT hW
              exact ⟨k + 1, by omega, by go_num, steps_rel (r := []) hT hxn hyn hxy HX.out (if_pos hW).symm hrd hB HLB.out⟩
            case measure => simp [intOf]; omega
          · have hW2 : D x y ≤ W := by omega
            go_wp2
            go_quiet (fail)
            go_wp2
            go_region_held3 (fun w' => w'.cell? ⟨wr.heap.size, 0, none⟩ = some (.int .i64 x) ∧ w'.cell? ⟨wr.heap.size, 1, none⟩ = some (.int .i64 y) ∧ w'.cell? ⟨g, x, none⟩ = some (.slice (some ⟨f x, 0, none⟩) n (c x)) ∧ w'.cell? ⟨g, y, none⟩ = some (.slice (some ⟨f y, 0, none⟩) n (c y))) (go_keep) (fail)
            go_wp2
            go_roundw
            case rel =>
              rw [HD.out] at hT hW2
              exact ⟨k + 1, by omega, by go_num, steps_rel (r := []) hT hxn hyn hxy HX.out (by rw [HD.out]; exact (if_neg (show ¬ W < stp (l.take k) x y by omega)).symm) hrd hB HLB.out⟩
            case measure => simp [intOf]; omega
        · obtain rfl : k = l.length := by omega
          simp only [List.take_length] at hT
          go_wp2
          go_ret
          exact ⟨_, rfl, ⟨_, _, _, _, rfl, by rw [← HL.out, hC.out]; exact hT.mono (by omega)⟩, hB⟩
end Go.Proofs.Ytjdldmecjhddnaa
