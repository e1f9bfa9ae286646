/- The contracts of (choice).list, keeper.within, keeper.together and what they hand back. -/
import Derived.Test.YtjdldmecjhddnaaK6
import Derived.Deep.RegionHeld3
import Derived.Laws.EntriesVeiled
namespace Go.Proofs.Ytjdldmecjhddnaa
open Go.RowKit
set_option linter.unusedVariables false
set_option linter.unusedSimpArgs false

set_option maxHeartbeats 1000000 in
set_option maxRecDepth 100000 in
theorem k_clist_none (w : World) : Calls Try.prog 77 #[.agg #[.bool false, .int .i64 0, .int .i64 0]] w fun e w' => e = .returned (.tuple #[.slice none 0 0, .bool false, .int .i64 0]) ∧ Below w.heap.size w w' := by
  go_enter Try.func77, Try.ntmps77
  go_wp2
  go_ret3
  exact ⟨rfl, bal (Below.refl _ _) _⟩

set_option maxHeartbeats 1000000 in
set_option maxRecDepth 100000 in
theorem k_clist_some (c : Int) (s : Nat) (hs : s < 4096) (w : World) : Calls Try.prog 77 #[.agg #[.bool true, .int .i64 c, .int .i64 s]] w fun e w' => ∃ v, e = .returned (.tuple #[v, .bool true, .int .i64 0]) ∧
    w'.ownsRow w.heap.size 3 1 v (bits 12 s).length ((bits 12 s).map (Value.int .i64)) ∧ Below w.heap.size w w' := by
  go_enter Try.func77, Try.ntmps77
  go_wp2_with fail
  refine (k_list s hs _).mono ?_
  rintro e w1 ⟨v, rfl, hown, hb⟩
  have hown' := hown.mono_base (show w.heap.size ≤ _ from by simp)
  clear hown
  go_wp2
  go_ret3
  exact ⟨_, rfl, hown', below_then (bal (Below.refl _ _) _) (by simp) hb⟩

theorem cnew {w : World} {c : Array Value} {t : TypeId} {n i : Nat} {v : Value} (hn : n = w.heap.size) (hv : c[i]? = some v) : (w.alloc (.cells c t)).cell? ⟨n, i, none⟩ = some v := by
  subst hn
  rw [World.cell?_alloc_new]; exact hv
/-- What a wish is: called with a set below N it says p of it; it lays blocks of its own alone. -/
def Want (w : World) (fv : Value) (p : Nat → Bool) (N : Nat) : Prop :=
  ∃ g cb, fv = .func (.func g) #[] cb ∧ Enters Try.prog g ∧
    ∀ (W : World) (s : Nat), Below w.heap.size w W → s < N → Calls Try.prog g (#[.int .i64 s] ++ cb) W fun e W' => e = .returned (.bool (p s)) ∧ Below W.heap.size W W'
theorem Want.below {w w' : World} {fv : Value} {p : Nat → Bool} {N : Nat} (h : Want w fv p N) (hb : Below w.heap.size w w') : Want w' fv p N := by
  obtain ⟨g, cb, e, eg, hc⟩ := h
  exact ⟨g, cb, e, eg, fun W s hW hs => hc W s (bthen hb hW) hs⟩
theorem Want.congr {w : World} {fv : Value} {p q : Nat → Bool} {N : Nat} (h : Want w fv p N) (he : ∀ s, s < N → p s = q s) : Want w fv q N := by
  obtain ⟨g, cb, e, eg, hc⟩ := h
  exact ⟨g, cb, e, eg, fun W s hW hs => by rw [← he s hs]; exact hc W s hW hs⟩

/-- The width of two clocks behind a set. -/
def wdS (m : Mk) (s : Nat) (a b : Int) : Int := wd m.n.toNat (comps m (bits 12 s)) a.toNat b.toNat
theorem MkRd.cells {w : World} {m : Mk} {v : Value} (h : MkRd w m v) : ∃ c0 c1 c2, v = .agg #[c0, c1, c2] ∧ c0 = .int .i64 m.n := by
  obtain ⟨ka, kc, oa, oc, e, _⟩ := h
  exact ⟨_, _, _, e, rfl⟩

set_option maxHeartbeats 2000000 in
set_option maxRecDepth 100000 in
theorem k_within1 (m : Mk) (c0 c1 c2 : Value) (B : Nat) (a b width : Int) (s : Nat) (w : World) (hm : MkRd w m (.agg #[c0, c1, c2])) (hok : m.ok = true) (hs : s < 2 ^ m.os.length)
    (m0 : w.cell? ⟨B, 0, none⟩ = some c0) (m1 : w.cell? ⟨B, 1, none⟩ = some c1) (m2 : w.cell? ⟨B, 2, none⟩ = some c2) (ha : w.cell? ⟨B + 1, 0, none⟩ = some (.int .i64 a)) (hb : w.cell? ⟨B + 2, 0, none⟩ = some (.int .i64 b)) (hw : w.cell? ⟨B + 3, 0, none⟩ = some (.int .i64 width))
    (a0 : 0 ≤ a) (a1 : a < m.n) (b0 : 0 ≤ b) (b1 : b < m.n) :
    Calls Try.prog 104 #[.int .i64 s, .pointer (some ⟨B, 0, none⟩), .pointer (some ⟨B + 1, 0, none⟩), .pointer (some ⟨B + 2, 0, none⟩), .pointer (some ⟨B + 3, 0, none⟩)] w fun e w' => e = .returned (.bool (decide (wdS m s a b ≤ width))) ∧ Below w.heap.size w w' := by
  obtain ⟨mn, ks, os⟩ := m
  obtain ⟨x, rfl⟩ := Int.eq_ofNat_of_zero_le a0
  obtain ⟨y, rfl⟩ := Int.eq_ofNat_of_zero_le b0
  have hmn : 0 ≤ mn := by simp only at a1; omega
  obtain ⟨n, rfl⟩ := Int.eq_ofNat_of_zero_le hmn
  simp only at a1 b1 hs
  have HE : Hid (wdS ⟨n, ks, os⟩ s x y = wd n (comps ⟨n, ks, os⟩ (bits 12 s)) x y) := Lib.hid rfl
  obtain ⟨D, hD⟩ : ∃ D, D = wd n (comps ⟨n, ks, os⟩ (bits 12 s)) := ⟨_, rfl⟩
  have HM := Lib.hid hm
  have HOK := Lib.hid hok
  have HK := fun W (h : MkRd W ⟨n, ks, os⟩ (.agg #[c0, c1, c2])) => k_widths s n ks os _ W h hok hs
  rw [← hD] at HK HE
  have HKK := Lib.hid HK
  obtain ⟨ka, kc, oa, oc, e, _⟩ := hm
  injection e with e
  injection e with e
  injection e with e1 e; injection e with e2 e; injection e with e3 e
  subst e1 e2 e3
  clear hD HK e hok
  go_enter Try.func104, Try.ntmps104
  go_wp2_with fail
  refine wp_region_held_drew (S := (fun w' => w'.cell? ⟨B, 0, none⟩ = some (.int .i64 n) ∧ w'.cell? ⟨B, 1, none⟩ = some (.slice ka ks.length kc) ∧ w'.cell? ⟨B, 2, none⟩ = some (.slice oa os.length oc) ∧ w'.cell? ⟨B + 1, 0, none⟩ = some (.int .i64 x) ∧ w'.cell? ⟨B + 2, 0, none⟩ = some (.int .i64 y) ∧ w'.cell? ⟨B + 3, 0, none⟩ = some (.int .i64 width))) (by kernel_rfl) ⟨cdw m0, cdw m1, cdw m2, cdw ha, cdw hb, cdw hw⟩ (fun hHeld => ?_)
  refine wpAnyH_take (i := 0) (v := ?v0) rfl (by kernel_rfl) (by kernel_rfl) (by kernel_rfl) (fun _ _ _ h => h) (Or.inl ⟨by rfl, ?y0⟩) hHeld ?r0
  case y0 => (intro wS hSw; (try dsimp only at hSw); go_split_ands; go_simp <;> with_reducible rfl)
  (try simp only [Act.put, List.setIfInBounds_toArray, List.set_cons_zero, List.set_cons_succ])
  refine wpAnyH_take (i := 1) (v := ?v1) rfl (by kernel_rfl) (by kernel_rfl) (by kernel_rfl) (fun _ _ _ h => h) (Or.inl ⟨by rfl, ?y1⟩) hHeld ?r1
  case y1 => (intro wS hSw; (try dsimp only at hSw); go_split_ands; go_simp <;> with_reducible rfl)
  (try simp only [Act.put, List.setIfInBounds_toArray, List.set_cons_zero, List.set_cons_succ])
  refine wpAnyH_take (i := 3) (v := ?v3) rfl (by kernel_rfl) (by kernel_rfl) (by kernel_rfl) (fun _ _ _ h => h) (Or.inl ⟨by rfl, ?y3⟩) hHeld ?r3
  case y3 => (intro wS hSw; (try dsimp only at hSw); go_split_ands; go_simp <;> with_reducible rfl)
  (try simp only [Act.put, List.setIfInBounds_toArray, List.set_cons_zero, List.set_cons_succ])
  refine wpAnyH_take (i := 6) (v := ?v6) rfl (by kernel_rfl) (by kernel_rfl) (by kernel_rfl) (fun _ _ _ h => h) (Or.inl ⟨by rfl, ?y6⟩) hHeld ?r6
  case y6 => (intro wS hSw; (try dsimp only at hSw); go_split_ands; go_simp <;> with_reducible rfl)
  (try simp only [Act.put, List.setIfInBounds_toArray, List.set_cons_zero, List.set_cons_succ])
  refine wpAnyH_take (i := 9) (v := ?v9) rfl (by kernel_rfl) (by kernel_rfl) (by kernel_rfl) (fun _ _ _ h => h) (Or.inl ⟨by rfl, ?y9⟩) hHeld ?r9
  case y9 => (intro wS hSw; (try dsimp only at hSw); go_split_ands; go_simp <;> with_reducible rfl)
  (try simp only [Act.put, List.setIfInBounds_toArray, List.set_cons_zero, List.set_cons_succ])
  refine wpAnyH_ready (rs := [2]) (by kernel_rfl) (by simp) ?_
  refine AllReadyH.cons (o := _) rfl (fun K hK => ?_) AllReadyH.nil
  go_simp
  refine (HKK.out _ (by exact HM.out.below (Below.refl _ _).drew)).mono ?_
  rintro e w1 ⟨v, rfl, ⟨g, cap, f, c, rfl, hT⟩, hb1⟩
  have t1 := hT.row x (by omega)
  have t2 := hT.cell x y (by omega) (by omega)
  refine hK.out _ _ ⟨below_cell hb1 (cdw m0), below_cell hb1 (cdw m1), below_cell hb1 (cdw m2), below_cell hb1 (cdw ha), below_cell hb1 (cdw hb), below_cell hb1 (cdw hw)⟩ (fun hHeld => ?_)
  clear hK K
  (try simp only [Act.put, List.setIfInBounds_toArray, List.set_cons_zero, List.set_cons_succ])
  refine wpAnyH_ready (rs := [4]) (by kernel_rfl) (by simp) ?_
  refine AllReadyH.cons (o := _) rfl (fun K hK => ?_) AllReadyH.nil
  go_simp
  refine hK.out _ _ hHeld (fun hHeld => ?_)
  clear hK K
  (try simp only [Act.put, List.setIfInBounds_toArray, List.set_cons_zero, List.set_cons_succ])
  refine wpAnyH_ready (rs := [5]) (by kernel_rfl) (by simp) ?_
  refine AllReadyH.cons (o := _) rfl (fun K hK => ?_) AllReadyH.nil
  go_simp
  refine hK.out _ _ hHeld (fun hHeld => ?_)
  clear hK K
  (try simp only [Act.put, List.setIfInBounds_toArray, List.set_cons_zero, List.set_cons_succ])
  refine wpAnyH_ready (rs := [7]) (by kernel_rfl) (by simp) ?_
  refine AllReadyH.cons (o := _) rfl (fun K hK => ?_) AllReadyH.nil
  go_simp
  refine hK.out _ _ hHeld (fun hHeld => ?_)
  clear hK K
  (try simp only [Act.put, List.setIfInBounds_toArray, List.set_cons_zero, List.set_cons_succ])
  refine wpAnyH_ready (rs := [8]) (by kernel_rfl) (by simp) ?_
  refine AllReadyH.cons (o := _) rfl (fun K hK => ?_) AllReadyH.nil
  go_simp
  refine hK.out _ _ hHeld (fun hHeld => ?_)
  clear hK K
  (try simp only [Act.put, List.setIfInBounds_toArray, List.set_cons_zero, List.set_cons_succ])
  refine wpAnyH_ready (rs := [10]) (by kernel_rfl) (by simp) ?_
  refine AllReadyH.cons (o := _) rfl (fun K hK => ?_) AllReadyH.nil
  go_simp
  refine hK.out _ _ hHeld (fun hHeld => ?_)
  clear hK K
  (try simp only [Act.put, List.setIfInBounds_toArray, List.set_cons_zero, List.set_cons_succ])
  refine wpAnyH_ready (rs := [11]) (by kernel_rfl) (by simp) ?_
  refine AllReadyH.cons (o := _) rfl (fun K hK => ?_) AllReadyH.nil
  go_simp
  refine hK.out _ _ hHeld (fun hHeld => ?_)
  clear hK K
  (try simp only [Act.put, List.setIfInBounds_toArray, List.set_cons_zero, List.set_cons_succ])
  refine wpAnyH_done (by kernel_rfl) ?_ _
  go_wp2
  go_ret
  exact ⟨ret_bool (by rw [HE.out]), (Below.refl _ _).drew.trans hb1⟩

set_option maxHeartbeats 2000000 in
set_option maxRecDepth 100000 in
theorem k_within (m : Mk) (mv : Value) (a b width : Int) (w : World) (hm : MkRd w m mv) (hok : m.ok = true) (a0 : 0 ≤ a) (a1 : a < m.n) (b0 : 0 ≤ b) (b1 : b < m.n) :
    Calls Try.prog 62 #[mv, .int .i64 a, .int .i64 b, .int .i64 width] w fun e w' => ∃ fv, e = .returned (.agg #[fv]) ∧ Want w' fv (fun s => decide (wdS m s a b ≤ width)) (2 ^ m.os.length) ∧ Below w.heap.size w w' := by
  have HM := Lib.hid hm
  obtain ⟨ka, kc, oa, oc, rfl, _⟩ := hm
  have HOK := Lib.hid hok
  clear hok
  have eg := enters_of Try.func104 (by kernel_rfl) rfl
  have EG := Lib.hid eg
  clear eg
  go_enter Try.func62, Try.ntmps62
  go_wp2
  refine bodyPost_ret (v := .agg #[.func (.func 104) #[] #[.pointer (some ⟨w.heap.size, 0, none⟩), .pointer (some ⟨w.heap.size + 1, 0, none⟩), .pointer (some ⟨w.heap.size + 2, 0, none⟩), .pointer (some ⟨w.heap.size + 3, 0, none⟩)]]) (by simp [results, Try.results62, go_sem]) rfl ?_
  have hBB : Below w.heap.size w (((((w.alloc (.cells #[.int .i64 m.n, .slice ka m.ks.length kc, .slice oa m.os.length oc] 24)).alloc (.cells #[.int .i64 a] 3)).alloc (.cells #[.int .i64 b] 3)).alloc (.cells #[.int .i64 width] 3)).alloc (.cells #[.func (.func 104) #[] #[.pointer (some ⟨w.heap.size, 0, none⟩), .pointer (some ⟨w.heap.size + 1, 0, none⟩), .pointer (some ⟨w.heap.size + 1 + 1, 0, none⟩), .pointer (some ⟨w.heap.size + 1 + 1 + 1, 0, none⟩)]] 90)) := bal (bal (bal (bal (bal (Below.refl _ _) _) _) _) _) _
  refine ⟨_, rfl, ⟨104, _, rfl, EG.out, fun W s hW hs => ?_⟩, hBB⟩
  exact k_within1 m _ _ _ w.heap.size a b width s W (HM.out.below (bthen hBB hW)) HOK.out hs (below_cell hW (cal (cal (cal (cal (by simp) _) _) _) _)) (below_cell hW (cal (cal (cal (cal (by simp) _) _) _) _)) (below_cell hW (cal (cal (cal (cal (by simp) _) _) _) _))
    (below_cell hW (cal (cal (cal (cnew (by simp) rfl) _) _) _)) (below_cell hW (cal (cal (cnew (by simp) rfl) _) _)) (below_cell hW (cal (cnew (by simp) rfl) _)) a0 a1 b0 b1

/-- All clocks are known within a width. -/
def allS (m : Mk) (s : Nat) (width : Int) : Bool := (List.range m.n.toNat).all fun a => (List.range m.n.toNat).all fun b => decide (wd m.n.toNat (comps m (bits 12 s)) a b ≤ width)

set_option maxHeartbeats 2000000 in
set_option maxRecDepth 100000 in
theorem k_together1 (m : Mk) (c0 c1 c2 : Value) (B : Nat) (width : Int) (s : Nat) (w : World) (hm : MkRd w m (.agg #[c0, c1, c2])) (hok : m.ok = true) (hs : s < 2 ^ m.os.length)
    (m0 : w.cell? ⟨B, 0, none⟩ = some c0) (m1 : w.cell? ⟨B, 1, none⟩ = some c1) (m2 : w.cell? ⟨B, 2, none⟩ = some c2) (hw : w.cell? ⟨B + 1, 0, none⟩ = some (.int .i64 width)) :
    Calls Try.prog 108 #[.int .i64 s, .pointer (some ⟨B, 0, none⟩), .pointer (some ⟨B + 1, 0, none⟩)] w fun e w' => e = .returned (.bool (allS m s width)) ∧ Below w.heap.size w w' := by
  obtain ⟨mn, ks, os⟩ := m
  have hmn : 0 ≤ mn := by have := (okM hok).n2; simp only at this; omega
  obtain ⟨n, rfl⟩ := Int.eq_ofNat_of_zero_le hmn
  have hn8 : n ≤ 8 := by have := (okM hok).n8; simp only at this; omega
  simp only at hs
  obtain ⟨D, hD⟩ : ∃ D, D = wd n (comps ⟨n, ks, os⟩ (bits 12 s)) := ⟨_, rfl⟩
  have HE : Hid (allS ⟨n, ks, os⟩ s width = (List.range n).all fun a => (List.range n).all fun b => decide (D a b ≤ width)) := Lib.hid (by rw [hD]; rfl)
  have HM := Lib.hid hm
  have HK := k_widths s n ks os _ w hm hok hs
  rw [← hD] at HK
  have HKK := Lib.hid HK
  obtain ⟨ka, kc, oa, oc, e, _⟩ := hm
  injection e with e
  injection e with e
  injection e with e1 e; injection e with e2 e; injection e with e3 e
  subst e1 e2 e3
  clear hD HK e hok
  go_enter Try.func108, Try.ntmps108
  go_wp2_with fail
  refine HKK.out.mono ?_
  rintro e w1 ⟨v, rfl, ⟨g, cap, f, c, rfl, hT⟩, hb⟩
  have m0' := below_cell hb m0
  have hw' := below_cell hb hw
  clear HM HKK m0 m1 m2 hw
  go_wp2_with fail
  go_loopw [13] (fun i wr => ∃ a : Nat, a ≤ n ∧ i = .int .i64 a ∧ Hid (∀ x y, x < a → y < n → D x y ≤ width) ∧ ∃ q, wr = w1.drewN q) (fun i _ => n - (intOf i).toNat)
  case atStart => exact ⟨0, Nat.zero_le _, rfl, Lib.hid (fun x y h => absurd h (Nat.not_lt_zero _)), 0, rfl⟩
  case round =>
    obtain ⟨a, ha, rfl, hall, q, rfl⟩ := hrel
    by_cases hlt : a < n
    · go_wp2_with fail
      go_loopw [18] (fun i wr => ∃ b : Nat, b ≤ n ∧ i = .int .i64 b ∧ Hid (∀ y, y < b → D a y ≤ width) ∧ ∃ q, wr = w1.drewN q) (fun i _ => n - (intOf i).toNat)
      case atStart => exact ⟨0, Nat.zero_le _, rfl, Lib.hid (fun y h => absurd h (Nat.not_lt_zero _)), q, rfl⟩
      case round =>
        obtain ⟨b, hb1, rfl, hall2, q2, rfl⟩ := hrel
        by_cases hlt2 : b < n
        · have t1 := hT.row a hlt
          have t2 := hT.cell a b hlt hlt2
          by_cases hle : D a b ≤ width
          · go_wp2
            go_quiet (fail)
            go_wp2
            go_roundw
            case rel =>
              refine ⟨b + 1, by omega, by go_num, Lib.hid (fun y hy => ?_), _, rfl⟩
              rcases Nat.lt_or_ge y b with h' | h'
              · exact hall2.out y h'
              · obtain rfl : y = b := by omega
                exact hle
            case measure => simp [intOf]; omega
          · have hgt : width < D a b := by omega
            have HNE : Hid (allS ⟨n, ks, os⟩ s width = false) := Lib.hid (by
              rw [HE.out]
              cases e : (List.range n).all fun a => (List.range n).all fun b => decide (D a b ≤ width) with
              | false => rfl
              | true =>
                have h1 := List.all_eq_true.1 e a (List.mem_range.2 hlt)
                have h2 := of_decide_eq_true (List.all_eq_true.1 h1 b (List.mem_range.2 hlt2))
                omega)
            go_wp2
            go_quiet (fail)
            go_wp2
            go_ret
            exact ⟨ret_bool HNE.out.symm, by simpa using bdrN (bdrN hb _) _⟩
        · obtain rfl : b = n := by omega
          go_wp2
          go_roundw
          case rel =>
            refine ⟨a + 1, by omega, by go_num, Lib.hid (fun x y hx hy => ?_), _, rfl⟩
            rcases Nat.lt_or_ge x a with h' | h'
            · exact hall.out x y h' hy
            · obtain rfl : x = a := by omega
              exact hall2.out y hy
          case measure => simp [intOf]; omega
    · obtain rfl : a = n := by omega
      have HYE : Hid (allS ⟨a, ks, os⟩ s width = true) := Lib.hid (by
        rw [HE.out]
        exact List.all_eq_true.2 (fun x hx => List.all_eq_true.2 (fun y hy => decide_eq_true (hall.out x y (List.mem_range.1 hx) (List.mem_range.1 hy)))))
      go_wp2
      go_ret
      exact ⟨ret_bool HYE.out.symm, by simpa using bdrN hb _⟩

set_option maxHeartbeats 2000000 in
set_option maxRecDepth 100000 in
theorem k_together (m : Mk) (mv : Value) (width : Int) (w : World) (hm : MkRd w m mv) (hok : m.ok = true) :
    Calls Try.prog 79 #[mv, .int .i64 width] w fun e w' => ∃ fv, e = .returned (.agg #[fv]) ∧ Want w' fv (fun s => allS m s width) (2 ^ m.os.length) ∧ Below w.heap.size w w' := by
  have HM := Lib.hid hm
  obtain ⟨ka, kc, oa, oc, rfl, _⟩ := hm
  have HOK := Lib.hid hok
  clear hok
  have eg := enters_of Try.func108 (by kernel_rfl) rfl
  have EG := Lib.hid eg
  clear eg
  go_enter Try.func79, Try.ntmps79
  go_wp2
  refine bodyPost_ret (v := .agg #[.func (.func 108) #[] #[.pointer (some ⟨w.heap.size, 0, none⟩), .pointer (some ⟨w.heap.size + 1, 0, none⟩)]]) (by simp [results, Try.results79, go_sem]) rfl ?_
  have hBB : Below w.heap.size w (((w.alloc (.cells #[.int .i64 m.n, .slice ka m.ks.length kc, .slice oa m.os.length oc] 24)).alloc (.cells #[.int .i64 width] 3)).alloc (.cells #[.func (.func 108) #[] #[.pointer (some ⟨w.heap.size, 0, none⟩), .pointer (some ⟨w.heap.size + 1, 0, none⟩)]] 90)) := bal (bal (bal (Below.refl _ _) _) _) _
  refine ⟨_, rfl, ⟨108, _, rfl, EG.out, fun W s hW hs => ?_⟩, hBB⟩
  exact k_together1 m _ _ _ w.heap.size width s W (HM.out.below (bthen hBB hW)) HOK.out hs (below_cell hW (cal (cal (by simp) _) _)) (below_cell hW (cal (cal (by simp) _) _)) (below_cell hW (cal (cal (by simp) _) _)) (below_cell hW (cal (by simp) _))
end Go.Proofs.Ytjdldmecjhddnaa
