/- The contract of the reference's Fronts. -/
import Derived.Test.YtjdldmecjhddnaaKR10
import Derived.Test.YtjdldmecjhddnaaKR11
namespace Go.Proofs.Ytjdldmecjhddnaa
open Go.RowKit
set_option linter.unusedVariables false
set_option linter.unusedSimpArgs false

/-- A block of rows of pairs, each in a block of its own or none; they are only read. -/
def RFt (w : World) (G n : Nat) (R : Nat → List (Int × Int)) : Prop :=
  ∀ b, b < n → (∃ ra rc, w.cell? ⟨G, b, none⟩ = some (.slice ra (R b).length rc) ∧ RdP w ra (R b) ∧ ∀ ad, ra = some ad → ad.block ≠ G) ∧ w.frozen? ⟨G, b, none⟩ = false
theorem RFt.below {w w' : World} {G n : Nat} {R : Nat → List (Int × Int)} (h : RFt w G n R) (hb : Below w.heap.size w w') : RFt w' G n R := by
  intro b hbn
  obtain ⟨⟨ra, rc, h1, h2, h3⟩, h4⟩ := h b hbn
  exact ⟨⟨ra, rc, below_cell hb h1, h2.below hb, h3⟩, (hb.frozen (World.block_lt_of_cell? w _ h1)).trans h4⟩
theorem RFt.congr {w : World} {G n : Nat} {R R' : Nat → List (Int × Int)} (h : RFt w G n R) (he : ∀ b, b < n → R b = R' b) : RFt w G n R' := by
  intro b hbn; have := h b hbn; rw [he b hbn] at this; exact this
theorem RFt.set {w : World} {G n : Nat} {R : Nat → List (Int × Int)} (h : RFt w G n R) {b : Nat} (hb : b < n) {ra : Option Addr} {rc : Nat} {l : List (Int × Int)} (hr : RdP w ra l) (hne : ∀ ad, ra = some ad → ad.block ≠ G) :
    RFt (w.setCell ⟨G, b, none⟩ (.slice ra l.length rc)) G n (updF R b l) := by
  intro c hc
  obtain ⟨⟨ra', rc', h1, h2, h3⟩, h4⟩ := h c hc
  refine ⟨?_, by simp [h4]⟩
  unfold updF
  by_cases e : c = b
  · subst e
    rw [if_pos rfl]
    exact ⟨ra, rc, World.cell?_setCell_same _ _ _ h1, hr.setOther _ hne, hne⟩
  · rw [if_neg e]
    refine ⟨ra', rc', ?_, h2.setOther _ h3, h3⟩
    rw [World.cell?_setCell_other]
    · exact h1
    · intro e2; injection e2 with _ e4; exact e e4.symm
theorem RFt.rd {w : World} {G n : Nat} {R : Nat → List (Int × Int)} (h : RFt w G n R) : RdLL w (some ⟨G, 0, none⟩) ((List.range n).map R) := by
  refine fun _ => ⟨G, 0, rfl, fun i l hl => ?_⟩
  obtain ⟨hi, rfl⟩ := range_at hl
  obtain ⟨⟨ra, rc, h1, h2, _⟩, _⟩ := h i hi
  exact ⟨ra, rc, by rw [Nat.zero_add]; exact h1, h2⟩
/-- What Fronts hands back. -/
def RetFronts (w w' : World) (e : Ending) (m : Mk) (a : Int) : Prop := ∃ va vc, e = .returned (.tuple #[.slice va (frontsLF m a).1.length vc, .int .i64 (frontsLF m a).2]) ∧ RdLL w' va (frontsLF m a).1 ∧ Below w.heap.size w w'
set_option maxHeartbeats 4000000 in
set_option maxRecDepth 100000 in
theorem r_Fronts (m : Mk) (mv : Value) (a : Int) (w : World) (hm : MkRd w m mv) :
    Calls Try.prog 49 #[mv, .int .i64 a] w fun e w' => RetFronts w w' e m a := by
  have HM := Lib.hid hm
  obtain ⟨ka, kc, oa, oc, rfl, _⟩ := hm
  have hB0 : Below w.heap.size w ((w.alloc (.cells #[.int .i64 m.n, .slice ka m.ks.length kc, .slice oa m.os.length oc] 24)).alloc (.cells #[.int .i64 a] 3)) := bal (bal (Below.refl _ _) _) _
  have hcalls0 := (r_ready m _ [] [a] 0 none (some ⟨w.heap.size + 1, 0, none⟩) 0 1 0 1 _ (HM.out.below hB0) rfl rfl Rd.nil (by simpa using rdI_new (w.alloc (.cells #[.int .i64 m.n, .slice ka m.ks.length kc, .slice oa m.os.length oc] 24)) [a] 3 : RdI _ (some ⟨w.heap.size + 1, 0, none⟩) [a]) (by decide) (by decide))
  rw [ask_zero] at hcalls0
  have hcalls := Lib.hid hcalls0
  clear hcalls0
  have HM0 := Lib.hid (cal (show (w.alloc (.cells #[.int .i64 m.n, .slice ka m.ks.length kc, .slice oa m.os.length oc] 24)).cell? ⟨w.heap.size, 0, none⟩ = some (.int .i64 m.n) from by simp) (.cells #[.int .i64 a] 3))
  have HM1 := Lib.hid (cal (show (w.alloc (.cells #[.int .i64 m.n, .slice ka m.ks.length kc, .slice oa m.os.length oc] 24)).cell? ⟨w.heap.size, 1, none⟩ = some (.slice ka m.ks.length kc) from by simp) (.cells #[.int .i64 a] 3))
  have HM2 := Lib.hid (cal (show (w.alloc (.cells #[.int .i64 m.n, .slice ka m.ks.length kc, .slice oa m.os.length oc] 24)).cell? ⟨w.heap.size, 2, none⟩ = some (.slice oa m.os.length oc) from by simp) (.cells #[.int .i64 a] 3))
  by_cases he : askE m [] [a] [] ≠ 0
  · have HF := Lib.hid (show frontsLF m a = ([], askE m [] [a] []) from if_pos he)
    have hne : (askE m [] [a] [] != 0) = true := by rw [bne_iff_ne]; exact he
    have HE := Lib.hid he
    clear he
    go_enter Try.func49, Try.ntmps49
    go_wp2_with fail
    refine hcalls.out.mono ?_
    rintro e w1 ⟨rfl, hb⟩
    have hB := bthen hB0 hb
    have m0 := below_cell hb HM0.out
    have m1 := below_cell hb HM1.out
    have m2 := below_cell hb HM2.out
    clear hcalls HM0 HM1 HM2 hB0 hb
    clear m0 m1 m2
    go_wp2
    go_ret2
    unfold RetFronts
    rw [HF.out]
    exact ⟨_, _, rfl, RdLL.nil, hB⟩
  · have he0 : askE m [] [a] [] = 0 := Decidable.of_not_not he
    have HE := Lib.hid he0
    clear he
    obtain ⟨hok, hright, hcl, hsz⟩ := ask_0 he0
    have HOK := Lib.hid hok
    have ho12 := (okM hok).o12
    have hca := List.all_eq_true.1 hcl a (by simp)
    simp only [okC, Bool.and_eq_true, decide_eq_true_eq] at hca
    obtain ⟨a0, a1⟩ := hca
    have n2 := (okM hok).n2
    have n8 := (okM hok).n8
    clear hcl hsz hright hok
    obtain ⟨x, rfl⟩ := Int.eq_ofNat_of_zero_le a0
    obtain ⟨n, hn⟩ : ∃ n : Nat, m.n = n := ⟨m.n.toNat, by omega⟩
    rw [hn] at n2 n8 a1
    have hnn : m.n.toNat = n := by omega
    have HN := Lib.hid hn
    have hxn : x < n := by omega
    have HF := Lib.hid (show frontsLF m (x : Int) = ((List.range n).map (frontsF m x), 0) from by unfold frontsLF; rw [if_neg (by rw [HE.out]; simp), hnn]; rfl)
    clear hn he0
    have hsh := shl_len m.os.length ho12
    rw [Nat.min_eq_left (show m.os.length ≤ 64 by omega)] at hsh
    have hpl := pow_len HOK.out
    obtain ⟨N, hN⟩ : ∃ N, N = 2 ^ m.os.length := ⟨_, rfl⟩
    rw [← hN] at hsh hpl
    have HN2 := Lib.hid hN
    clear hN
    go_enter Try.func49, Try.ntmps49
    go_wp2_with fail
    refine hcalls.out.mono ?_
    rintro e w1 ⟨rfl, hb⟩
    rw [HE.out]
    have hB := bthen hB0 hb
    have m0 := below_cell hb HM0.out
    have m1 := below_cell hb HM1.out
    have m2 := below_cell hb HM2.out
    clear hcalls HM0 HM1 HM2 hB0 hb
    have M0 := Lib.hid m0
    have M1 := Lib.hid m1
    have M2 := Lib.hid m2
    have HM1 := Lib.hid (HM.out.below hB)
    have HB := Lib.hid hB
    have hsz1 : w.heap.size < w1.heap.size := World.block_lt_of_cell? w1 _ m0
    clear m0 m1 m2 hB
    go_wp2_with fail
    go_loopw [7, 8] (fun v i wr => ∃ k : Nat, k ≤ n ∧ i = .int .i64 k ∧ wr.ownsRow w1.heap.size 48 1 v k (List.replicate k (.slice none 0 0)) ∧ Below w1.heap.size w1 wr) (fun _ i _ => n - (intOf i).toNat)
    case atStart => exact ⟨0, Nat.zero_le _, rfl, World.ownsRow_nil _ _ _ _, Below.refl _ _⟩
    case round =>
      obtain ⟨k, hk, rfl, hown, hB⟩ := hrel
      have m0 := below_cell hB M0.out
      by_cases hlt : k < n
      · have hlt' : (k : Int) < m.n := by rw [HN.out]; omega
        go_wp2_with (at_builtin; refine ap1 rfl _ _ 44 rfl w1.heap.size 48 (.slice none 0 0) 1 24 info_pairs Try.underlying44 rfl (by decide) (by decide) _ _ _ rfl hown [.slice none 0 0] rfl rfl rfl (by omega) hB.size ?_; intro v' w5 hown5 hgr hat hnn)
        go_roundw
        case rel => exact ⟨k + 1, by omega, by go_num, by rw [List.replicate_succ']; exact hown5, hB.grown hgr hB.size (fun q e => (hown.lt q e).1)⟩
        case measure => simp [intOf]; omega
      · have hge : m.n ≤ (k : Int) := by rw [HN.out]; omega
        obtain rfl : k = n := by omega
        obtain ⟨G, cap, hv, hGl⟩ : ∃ G cap, u7 = .slice (some ⟨G, 0, none⟩) k cap ∧ w1.heap.size ≤ G := by
          rcases hown.2 with ⟨_, h0⟩ | ⟨G, cap, cur, e, hbG, _⟩
          · omega
          · exact ⟨G, cap, e, hbG⟩
        have HV := Lib.hid hv
        subst hv
        have HR0 := Lib.hid (show RFt wr G k (fun b => putN m x b 0) from fun b hb => by
          refine ⟨⟨none, 0, ?_, Rd.nil, fun ad e => by cases e⟩, own_free hown b⟩
          have := hown.cells (g := G) rfl b (.slice none 0 0) (by rw [List.getElem?_replicate, if_pos hb])
          simpa [Addr.add_lit, putN] using this)
        have HB1 := Lib.hid hB
        have hszG : G < wr.heap.size := (hown.lt G rfl).2
        clear hown hB
        go_wp2_with fail
        clear m0
        go_loopw [9] (fun i wr => ∃ s : Nat, s ≤ N ∧ i = .int .i64 s ∧ RFt wr G k (fun b => putN m x b s) ∧ Below w1.heap.size w1 wr ∧ G < wr.heap.size) (fun i _ => N - (intOf i).toNat)
        case atStart => exact ⟨0, Nat.zero_le _, rfl, HR0.out, HB1.out, hszG⟩
        case round =>
          clear HR0 HB1 hszG
          obtain ⟨s, hs, rfl, hR, hB, hszG⟩ := hrel
          have HR := Lib.hid hR
          have HBs := Lib.hid hB
          have m0 := below_cell hB M0.out
          have m1 := below_cell hB M1.out
          have m2 := below_cell hB M2.out
          have hsB := hB.size
          clear hR hB
          by_cases hlt2 : s < N
          · obtain ⟨k2, hk2⟩ : ∃ k2, k2 = s := ⟨_, rfl⟩
            have hkN : Hid (s < 2 ^ m.os.length) := Lib.hid (by rw [← HN2.out]; exact hlt2)
            have HM2 := Lib.hid (HM1.out.below HBs.out)
            clear hk2 k2
            go_wp2_with fail
            refine (r_List s m _ _ (by exact HM2.out) ho12 hkN.out).mono ?_
            rintro e w2 ⟨v2, rfl, hown, hb1⟩
            obtain ⟨la, lc, hv2, hrd⟩ := own_rdI hown
            subst hv2
            have HRD := Lib.hid hrd
            replace HM2 := Lib.hid (HM2.out.below hb1)
            replace HR := Lib.hid (HR.out.below hb1)
            replace HBs := Lib.hid (HBs.out.trans (hb1.mono hsB))
            replace m0 := below_cell hb1 m0
            replace m1 := below_cell hb1 m1
            replace m2 := below_cell hb1 m2
            have hszG2 : G < w2.heap.size := Nat.lt_of_lt_of_le hszG hb1.size
            have hsB2 := HBs.out.size
            clear hown hb1 hrd hszG hsB
            go_wp2_with fail
            refine wp_region_held_drew (S := (fun w' => w'.cell? ⟨w.heap.size, 0, none⟩ = some (.int .i64 m.n) ∧ w'.cell? ⟨w.heap.size, 1, none⟩ = some (.slice ka m.ks.length kc) ∧ w'.cell? ⟨w.heap.size, 2, none⟩ = some (.slice oa m.os.length oc))) (by kernel_rfl) ⟨cdw m0, cdw m1, cdw m2⟩ (fun hHeld => ?_)
            refine wpAnyH_take (i := 0) (v := ?vra0) rfl (by kernel_rfl) (by kernel_rfl) (by kernel_rfl) (fun _ _ _ h => h) (Or.inl ⟨by rfl, ?yra0⟩) hHeld ?rra0
            case yra0 => (intro wS hSw; (try dsimp only at hSw); go_split_ands; go_simp <;> with_reducible rfl)
            (try simp only [Act.put, List.setIfInBounds_toArray, List.set_cons_zero, List.set_cons_succ])
            refine wpAnyH_take (i := 1) (v := ?vra1) rfl (by kernel_rfl) (by kernel_rfl) (by kernel_rfl) (fun _ _ _ h => h) (Or.inl ⟨by rfl, ?yra1⟩) hHeld ?rra1
            case yra1 => (intro wS hSw; (try dsimp only at hSw); go_split_ands; go_simp <;> with_reducible rfl)
            (try simp only [Act.put, List.setIfInBounds_toArray, List.set_cons_zero, List.set_cons_succ])
            refine wpAnyH_take (i := 3) (v := ?vra3) rfl (by kernel_rfl) (by kernel_rfl) (by kernel_rfl) (fun _ _ _ h => h) (Or.inl ⟨by rfl, ?yra3⟩) hHeld ?rra3
            case yra3 => (intro wS hSw; (try dsimp only at hSw); go_split_ands; go_simp <;> with_reducible rfl)
            (try simp only [Act.put, List.setIfInBounds_toArray, List.set_cons_zero, List.set_cons_succ])
            refine wpAnyH_take (i := 4) (v := ?vra4) rfl (by kernel_rfl) (by kernel_rfl) (by kernel_rfl) (fun _ _ _ h => h) (Or.inl ⟨by rfl, ?yra4⟩) hHeld ?rra4
            case yra4 => (intro wS hSw; (try dsimp only at hSw); go_split_ands; go_simp <;> with_reducible rfl)
            (try simp only [Act.put, List.setIfInBounds_toArray, List.set_cons_zero, List.set_cons_succ])
            refine wpAnyH_take (i := 5) (v := ?vra5) rfl (by kernel_rfl) (by kernel_rfl) (by kernel_rfl) (fun _ _ _ h => h) (Or.inl ⟨by rfl, ?yra5⟩) hHeld ?rra5
            case yra5 => (intro wS hSw; (try dsimp only at hSw); go_split_ands; go_simp <;> with_reducible rfl)
            (try simp only [Act.put, List.setIfInBounds_toArray, List.set_cons_zero, List.set_cons_succ])
            refine wpAnyH_take (i := 6) (v := ?vra6) rfl (by kernel_rfl) (by kernel_rfl) (by kernel_rfl) (fun _ _ _ h => h) (Or.inl ⟨by rfl, ?yra6⟩) hHeld ?rra6
            case yra6 => (intro wS hSw; (try dsimp only at hSw); go_split_ands; go_simp <;> with_reducible rfl)
            (try simp only [Act.put, List.setIfInBounds_toArray, List.set_cons_zero, List.set_cons_succ])
            refine wpAnyH_take (i := 9) (v := ?vra9) rfl (by kernel_rfl) (by kernel_rfl) (by kernel_rfl) (fun _ _ _ h => h) (Or.inl ⟨by rfl, ?yra9⟩) hHeld ?rra9
            case yra9 => (intro wS hSw; (try dsimp only at hSw); go_split_ands; go_simp <;> with_reducible rfl)
            (try simp only [Act.put, List.setIfInBounds_toArray, List.set_cons_zero, List.set_cons_succ])
            refine wpAnyH_ready (rs := [2]) (by kernel_rfl) (by simp) ?_
            refine AllReadyH.cons (o := _) rfl (fun K hK => ?_) AllReadyH.nil
            go_simp
            refine (r_cost m _ (bits 12 s) _ _ _ _ (by exact HM2.out.below (Below.refl _ _).drew) rfl (by exact HRD.out.below (Below.refl _ _).drew) HOK.out (bits_mem hkN.out) (bits_len 12 s)).mono ?_
            rintro e x1 ⟨rfl, hb1⟩
            refine hK.out _ _ ⟨(below_cell hb1 (cdw m0)), (below_cell hb1 (cdw m1)), (below_cell hb1 (cdw m2))⟩ (fun hHeld => ?_)
            clear hK K
            (try simp only [Act.put, List.setIfInBounds_toArray, List.set_cons_zero, List.set_cons_succ])
            refine wpAnyH_ready (rs := [7]) (by kernel_rfl) (by simp) ?_
            refine AllReadyH.cons (o := _) rfl (fun K hK => ?_) AllReadyH.nil
            go_simp
            refine (r_Comparisons m _ (bits 12 s) _ _ _ _ (by exact HM2.out.below (bthen (Below.refl _ _).drew hb1)) rfl (by exact HRD.out.below (bthen (Below.refl _ _).drew hb1)) HOK.out (bits_mem hkN.out) (bits_len 12 s)).mono ?_
            rintro e x2 ⟨v2, rfl, hown, hb2⟩
            obtain ⟨c1, c2, hv2, hrd⟩ := own_rd (enc := encO) (k := 4) (fun _ => rfl) hown
            subst hv2
            clear hown
            refine hK.out _ _ ⟨(below_cell hb2 (below_cell hb1 (cdw m0))), (below_cell hb2 (below_cell hb1 (cdw m1))), (below_cell hb2 (below_cell hb1 (cdw m2)))⟩ (fun hHeld => ?_)
            clear hK K
            (try simp only [Act.put, List.setIfInBounds_toArray, List.set_cons_zero, List.set_cons_succ])
            refine wpAnyH_ready (rs := [8]) (by kernel_rfl) (by simp) ?_
            refine AllReadyH.cons (o := _) rfl (fun K hK => ?_) AllReadyH.nil
            go_simp
            refine (comps_wd HOK.out (bits_mem hkN.out) (bits_len 12 s) _ _ _ hrd).mono ?_
            rintro e x3 ⟨v3, rfl, ⟨g, cap3, f, c, rfl, hT⟩, hb3⟩
            rw [hnn] at hT
            have t1 := hT.row x hxn
            refine hK.out _ _ ⟨(below_cell hb3 (below_cell hb2 (below_cell hb1 (cdw m0)))), (below_cell hb3 (below_cell hb2 (below_cell hb1 (cdw m1)))), (below_cell hb3 (below_cell hb2 (below_cell hb1 (cdw m2))))⟩ (fun hHeld => ?_)
            clear hK K
            (try simp only [Act.put, List.setIfInBounds_toArray, List.set_cons_zero, List.set_cons_succ])
            refine wpAnyH_take (i := 12) (v := ?vra12) rfl (by kernel_rfl) (by kernel_rfl) (by kernel_rfl) (fun _ _ _ h => h) (Or.inl ⟨by rfl, ?yra12⟩) hHeld ?rra12
            case yra12 => (intro wS hSw; (try dsimp only at hSw); go_split_ands; go_simp <;> with_reducible rfl)
            (try simp only [Act.put, List.setIfInBounds_toArray, List.set_cons_zero, List.set_cons_succ])
            refine wpAnyH_ready (rs := [10]) (by kernel_rfl) (by simp) ?_
            refine AllReadyH.cons (o := _) rfl (fun K hK => ?_) AllReadyH.nil
            go_simp
            refine hK.out _ _ hHeld (fun hHeld => ?_)
            clear hK K
            (try simp only [Act.put, List.setIfInBounds_toArray, List.set_cons_zero, List.set_cons_succ])
            refine wpAnyH_ready (rs := [11]) (by kernel_rfl) (by simp) ?_
            refine AllReadyH.cons (o := _) rfl (fun K hK => ?_) AllReadyH.nil
            go_simp
            refine hK.out _ _ hHeld (fun hHeld => ?_)
            clear hK K
            (try simp only [Act.put, List.setIfInBounds_toArray, List.set_cons_zero, List.set_cons_succ])
            refine wpAnyH_ready (rs := [13]) (by kernel_rfl) (by simp) ?_
            refine AllReadyH.cons (o := _) rfl (fun K hK => ?_) AllReadyH.nil
            go_simp
            refine hK.out _ _ hHeld (fun hHeld => ?_)
            clear hK K
            (try simp only [Act.put, List.setIfInBounds_toArray, List.set_cons_zero, List.set_cons_succ])
            refine wpAnyH_done (by kernel_rfl) ?_ _
            have hbx := bthen (Below.refl _ _).drew (bthen (bthen hb1 hb2) hb3)
            obtain ⟨D, hD⟩ : ∃ D, Hid (D = wd k (comps m (bits 12 s))) := ⟨_, Lib.hid rfl⟩
            rw [← hD.out] at hT
            obtain ⟨C, hC⟩ : ∃ C, Hid (C = costL m.os (bits 12 s)) := ⟨_, Lib.hid rfl⟩
            rw [← hC.out]
            have HT := Lib.hid hT
            have hgG : G < x2.heap.size := Nat.lt_of_lt_of_le hszG2 (bthen (Below.refl w2.heap.size w2).drew (bthen hb1 hb2)).size
            replace HR := Lib.hid (HR.out.below hbx)
            replace HBs := Lib.hid (HBs.out.trans (hbx.mono hsB2))
            replace m0 := below_cell hbx m0
            have M0' := Lib.hid m0
            have hszG3 : G < x3.heap.size := Nat.lt_of_lt_of_le hszG2 hbx.size
            clear m1 m2 hbx hb1 hb2 hb3 hT hrd HRD hszG2 hsB2 t1
            go_wp2_with fail
            clear m0
            go_loopw [13] (fun i wr => ∃ j : Nat, j ≤ k ∧ i = .int .i64 j ∧ RFt wr G k (fun b => if b < j then putN m x b (s + 1) else putN m x b s) ∧ TabF wr x2.heap.size g f c k D ∧ wr.cell? ⟨w.heap.size, 0, none⟩ = some (.int .i64 m.n) ∧ Below w1.heap.size w1 wr ∧ G < wr.heap.size) (fun i _ => k - (intOf i).toNat)
            case atStart => exact ⟨0, Nat.zero_le _, rfl, HR.out.congr (fun b hb => by rw [if_neg (Nat.not_lt_zero b)]), HT.out, M0'.out, HBs.out, hszG3⟩
            case round =>
              clear HR HT HBs M0' hszG3
              obtain ⟨j, hj, rfl, hR, hT, m0, hB, hszG⟩ := hrel
              by_cases hlt3 : j < k
              · have hlt3' : (j : Int) < m.n := by rw [HN.out]; omega
                have c2 := hT.cell x j hxn hlt3
                obtain ⟨X, hX⟩ : ∃ X, Hid (X = D x j) := ⟨_, Lib.hid rfl⟩
                rw [← hX.out] at c2
                have HX2 := Lib.hid (show X = wd m.n.toNat (comps m (bits 12 s)) x j from by rw [hX.out, hD.out, hnn])
                have HR := Lib.hid hR
                have HT := Lib.hid hT
                have HB := Lib.hid hB
                have M0j := Lib.hid m0
                clear hT hB
                by_cases hd : X < 1099511627776
                · have hpn := putN_len m x j s
                  obtain ⟨⟨ra, rc, h4, hrr, hne⟩, hz⟩ := hR j hlt3
                  simp only [Nat.lt_irrefl, if_false] at h4 hrr
                  obtain ⟨rn, hrn⟩ : ∃ rn, (putN m x j s).length = rn := ⟨_, rfl⟩
                  rw [hrn] at h4
                  have HRN := Lib.hid hrn
                  have hrn2 : rn ≤ 100000 := by omega
                  have HRR := Lib.hid hrr
                  have HNE := Lib.hid hne
                  have hs1 := Lib.hid (show (fun w' : World => w'.cell? ⟨G, j, none⟩ = some (.slice ra rn rc) ∧ w'.cell? ⟨f x, j, none⟩ = some (.int .i64 X)) wr.drew from ⟨cdw h4, cdw c2⟩)
                  have HPN := Lib.hid (show putN m x j (s + 1) = putF (putN m x j s) (C, X) from by rw [putN, ← HX2.out, if_pos hd, hC.out])
                  clear hR hrr hne hrn hpn
                  go_wp2
                  refine till_region (T := Till2 [14] (fun w' : World => w'.cell? ⟨G, j, none⟩ = some (.slice ra rn rc) ∧ w'.cell? ⟨f x, j, none⟩ = some (.int .i64 X)) [14] (fun _ : World => True)) (by kernel_rfl) ⟨till_hold hs1.out, till_hold trivial⟩ (fun _ => ?_)
                  refine till_take1 (i := 0) (v := ?vrb0) rfl (by kernel_rfl) (by kernel_rfl) (by kernel_rfl) (by kernel_rfl) (by kernel_rfl) (by kernel_rfl) (by kernel_rfl) (fun _ _ _ h => h) (Or.inl ⟨by rfl, ?yrb0⟩) ⟨till_hold hs1.out, till_hold trivial⟩ (fun _ => ?rrb0)
                  case yrb0 => (intro wS hSw; (try dsimp only at hSw); go_split_ands; go_simp <;> with_reducible rfl)
                  (try simp only [Act.put, List.setIfInBounds_toArray, List.set_cons_zero, List.set_cons_succ])
                  refine till_take1 (i := 1) (v := ?vrb1) rfl (by kernel_rfl) (by kernel_rfl) (by kernel_rfl) (by kernel_rfl) (by kernel_rfl) (by kernel_rfl) (by kernel_rfl) (fun _ _ _ h => h) (Or.inl ⟨by rfl, ?yrb1⟩) ⟨till_hold hs1.out, till_hold trivial⟩ (fun _ => ?rrb1)
                  case yrb1 => (intro wS hSw; (try dsimp only at hSw); go_split_ands; go_simp <;> with_reducible rfl)
                  (try simp only [Act.put, List.setIfInBounds_toArray, List.set_cons_zero, List.set_cons_succ])
                  refine till_take1 (i := 2) (v := ?vrb2) rfl (by kernel_rfl) (by kernel_rfl) (by kernel_rfl) (by kernel_rfl) (by kernel_rfl) (by kernel_rfl) (by kernel_rfl) (fun _ _ _ h => h) (Or.inl ⟨by rfl, ?yrb2⟩) ⟨till_hold hs1.out, till_hold trivial⟩ (fun _ => ?rrb2)
                  case yrb2 => (intro wS hSw; (try dsimp only at hSw); go_split_ands; go_simp <;> with_reducible rfl)
                  (try simp only [Act.put, List.setIfInBounds_toArray, List.set_cons_zero, List.set_cons_succ])
                  refine till_take1 (i := 3) (v := ?vrb3) rfl (by kernel_rfl) (by kernel_rfl) (by kernel_rfl) (by kernel_rfl) (by kernel_rfl) (by kernel_rfl) (by kernel_rfl) (fun _ _ _ h => h) (Or.inl ⟨by rfl, ?yrb3⟩) ⟨till_hold hs1.out, till_hold trivial⟩ (fun _ => ?rrb3)
                  case yrb3 => (intro wS hSw; (try dsimp only at hSw); go_split_ands; go_simp <;> with_reducible rfl)
                  (try simp only [Act.put, List.setIfInBounds_toArray, List.set_cons_zero, List.set_cons_succ])
                  refine till_take1 (i := 4) (v := ?vrb4) rfl (by kernel_rfl) (by kernel_rfl) (by kernel_rfl) (by kernel_rfl) (by kernel_rfl) (by kernel_rfl) (by kernel_rfl) (fun _ _ _ h => h) (Or.inl ⟨by rfl, ?yrb4⟩) ⟨till_hold hs1.out, till_hold trivial⟩ (fun _ => ?rrb4)
                  case yrb4 => (intro wS hSw; (try dsimp only at hSw); go_split_ands; go_simp <;> with_reducible rfl)
                  (try simp only [Act.put, List.setIfInBounds_toArray, List.set_cons_zero, List.set_cons_succ])
                  refine till_take1 (i := 5) (v := ?vrb5) rfl (by kernel_rfl) (by kernel_rfl) (by kernel_rfl) (by kernel_rfl) (by kernel_rfl) (by kernel_rfl) (by kernel_rfl) (fun _ _ _ h => h) (Or.inl ⟨by rfl, ?yrb5⟩) ⟨till_hold hs1.out, till_hold trivial⟩ (fun _ => ?rrb5)
                  case yrb5 => (intro wS hSw; (try dsimp only at hSw); go_split_ands; go_simp <;> with_reducible rfl)
                  (try simp only [Act.put, List.setIfInBounds_toArray, List.set_cons_zero, List.set_cons_succ])
                  refine till_take1 (i := 6) (v := ?vrb6) rfl (by kernel_rfl) (by kernel_rfl) (by kernel_rfl) (by kernel_rfl) (by kernel_rfl) (by kernel_rfl) (by kernel_rfl) (fun _ _ _ h => h) (Or.inl ⟨by rfl, ?yrb6⟩) ⟨till_hold hs1.out, till_hold trivial⟩ (fun _ => ?rrb6)
                  case yrb6 => (intro wS hSw; (try dsimp only at hSw); go_split_ands; go_simp <;> with_reducible rfl)
                  (try simp only [Act.put, List.setIfInBounds_toArray, List.set_cons_zero, List.set_cons_succ])
                  refine till_take1 (i := 7) (v := ?vrb7) rfl (by kernel_rfl) (by kernel_rfl) (by kernel_rfl) (by kernel_rfl) (by kernel_rfl) (by kernel_rfl) (by kernel_rfl) (fun _ _ _ h => h) (Or.inl ⟨by rfl, ?yrb7⟩) ⟨till_hold hs1.out, till_hold trivial⟩ (fun _ => ?rrb7)
                  case yrb7 => (intro wS hSw; (try dsimp only at hSw); go_split_ands; go_simp <;> with_reducible rfl)
                  (try simp only [Act.put, List.setIfInBounds_toArray, List.set_cons_zero, List.set_cons_succ])
                  refine till_take1 (i := 8) (v := ?vrb8) rfl (by kernel_rfl) (by kernel_rfl) (by kernel_rfl) (by kernel_rfl) (by kernel_rfl) (by kernel_rfl) (by kernel_rfl) (fun _ _ _ h => h) (Or.inl ⟨by rfl, ?yrb8⟩) ⟨till_hold hs1.out, till_hold trivial⟩ (fun _ => ?rrb8)
                  case yrb8 => (intro wS hSw; (try dsimp only at hSw); go_split_ands; go_simp <;> with_reducible rfl)
                  (try simp only [Act.put, List.setIfInBounds_toArray, List.set_cons_zero, List.set_cons_succ])
                  refine till_take1 (i := 9) (v := ?vrb9) rfl (by kernel_rfl) (by kernel_rfl) (by kernel_rfl) (by kernel_rfl) (by kernel_rfl) (by kernel_rfl) (by kernel_rfl) (fun _ _ _ h => h) (Or.inl ⟨by rfl, ?yrb9⟩) ⟨till_hold hs1.out, till_hold trivial⟩ (fun _ => ?rrb9)
                  case yrb9 => (intro wS hSw; (try dsimp only at hSw); go_split_ands; go_simp <;> with_reducible rfl)
                  (try simp only [Act.put, List.setIfInBounds_toArray, List.set_cons_zero, List.set_cons_succ])
                  refine till_take1 (i := 10) (v := ?vrb10) rfl (by kernel_rfl) (by kernel_rfl) (by kernel_rfl) (by kernel_rfl) (by kernel_rfl) (by kernel_rfl) (by kernel_rfl) (fun _ _ _ h => h) (Or.inl ⟨by rfl, ?yrb10⟩) ⟨till_hold hs1.out, till_hold trivial⟩ (fun _ => ?rrb10)
                  case yrb10 => (intro wS hSw; (try dsimp only at hSw); go_split_ands; go_simp <;> with_reducible rfl)
                  (try simp only [Act.put, List.setIfInBounds_toArray, List.set_cons_zero, List.set_cons_succ])
                  refine till_take1 (i := 11) (v := ?vrb11) rfl (by kernel_rfl) (by kernel_rfl) (by kernel_rfl) (by kernel_rfl) (by kernel_rfl) (by kernel_rfl) (by kernel_rfl) (fun _ _ _ h => h) (Or.inl ⟨by rfl, ?yrb11⟩) ⟨till_hold hs1.out, till_hold trivial⟩ (fun _ => ?rrb11)
                  case yrb11 => (intro wS hSw; (try dsimp only at hSw); go_split_ands; go_simp <;> with_reducible rfl)
                  (try simp only [Act.put, List.setIfInBounds_toArray, List.set_cons_zero, List.set_cons_succ])
                  refine till_ready (i := 12) (o := _) (by kernel_rfl) rfl (fun K hK => ?_)
                  go_simp
                  refine (r_put (putN m x j s) (C, X) ra rn rc _ HRN.out (by exact HRR.out.below (Below.refl _ _).drew) (by omega)).mono ?_
                  rintro e w5 hput
                  obtain ⟨va, vc, rfl, hrd5, hfr5, hb5⟩ := hput
                  have hs2 := Lib.hid (show (fun w' : World => w'.cell? ⟨G, j, none⟩ = some (.slice ra rn rc) ∧ w'.cell? ⟨f x, j, none⟩ = some (.int .i64 X)) w5 from ⟨below_cell hb5 hs1.out.1, below_cell hb5 hs1.out.2⟩)
                  have hz5 : w5.frozen? ⟨G, j, none⟩ = false := (hb5.frozen (World.block_lt_of_cell? _ _ hs1.out.1)).trans (((Below.refl wr.heap.size wr).drew.frozen (World.block_lt_of_cell? wr _ h4)).trans hz)
                  have hc5 := hs2.out.1
                  have hbz := bthen (Below.refl _ _).drew hb5
                  have HFR5 := Lib.hid hfr5
                  have HRD5 := Lib.hid hrd5
                  clear hfr5 hrd5 hb5
                  refine hK.out _ _ ⟨till_hold hs2.out, till_hold trivial⟩ ?_
                  clear hK K
                  (try simp only [Act.put, List.setIfInBounds_toArray, List.set_cons_zero, List.set_cons_succ])
                  refine till_ready (i := 13) (o := _) (by kernel_rfl) rfl (fun K hK => ?_)
                  go_simp
                  refine hK.out _ _ ⟨till_hold hs2.out, till_hold trivial⟩ ?_
                  clear hK K
                  (try simp only [Act.put, List.setIfInBounds_toArray, List.set_cons_zero, List.set_cons_succ])
                  refine till_ready (i := 14) (o := _) (by kernel_rfl) rfl (fun K hK => ?_)
                  go_simp
                  refine hK.out _ _ ⟨till_gone (by kernel_rfl), till_gone (by kernel_rfl)⟩ ?_
                  clear hK K
                  (try simp only [Act.put, List.setIfInBounds_toArray, List.set_cons_zero, List.set_cons_succ])
                  refine till_done (by kernel_rfl) ?_ _
                  have HR5 := Lib.hid ((HR.out.below hbz).set (b := j) hlt3 (rc := vc) HRD5.out (fun ad e => by
                    rcases HFR5.out with h | h
                    · exact HNE.out ad (by rw [← h]; exact e)
                    · have h1 := h ad e; have h2 : wr.heap.size ≤ wr.drew.heap.size := (Below.refl wr.heap.size wr).drew.size; omega))
                  have HT5 := Lib.hid ((HT.out.below hbz).setOther (p := ⟨G, j, none⟩) (.slice va (putF (putN m x j s) (C, X)).length vc) (by have := HT.out.hg; show G ≠ g; omega) (fun a ha => by have := (HT.out.hf a ha).1; show G ≠ f a; omega))
                  have hBz := Lib.hid ((HB.out.trans (hbz.mono HB.out.size)).setCell (p := ⟨G, j, none⟩) (show w1.heap.size ≤ G from hGl) (.slice va (putF (putN m x j s) (C, X)).length vc))
                  have M0k := Lib.hid (show (w5.setCell ⟨G, j, none⟩ (.slice va (putF (putN m x j s) (C, X)).length vc)).cell? ⟨w.heap.size, 0, none⟩ = some (.int .i64 m.n) from by rw [World.cell?_setCell_other _ _ _ _ (by intro e; injection e with e1 e2; omega)]; exact below_cell hbz M0j.out)
                  have hszG5 : G < w5.heap.size := Nat.lt_of_lt_of_le hszG hbz.size
                  go_wp2
                  go_roundw
                  case rel =>
                    refine ⟨j + 1, by omega, by go_num, HR5.out.congr (fun b hb => ?_), HT5.out, M0k.out, hBz.out, by simpa using hszG5⟩
                    unfold updF
                    by_cases e : b = j
                    · subst e; rw [if_pos rfl, if_pos (Nat.lt_succ_self b), HPN.out]
                    · rw [if_neg e]
                      show (if b < j then putN m x b (s + 1) else putN m x b s) = _
                      by_cases e2 : b < j
                      · rw [if_pos e2, if_pos (by omega)]
                      · rw [if_neg e2, if_neg (by omega)]
                  case measure => simp [intOf]; omega
                · have HPN := Lib.hid (show putN m x j (s + 1) = putN m x j s from by rw [putN, ← HX2.out, if_neg hd])
                  clear hR
                  go_wp2
                  go_roundw
                  case rel =>
                    refine ⟨j + 1, by omega, by go_num, HR.out.congr (fun b hb => ?_), HT.out, M0j.out, HB.out, hszG⟩
                    by_cases e : b = j
                    · subst e; rw [if_neg (Nat.lt_irrefl b), if_pos (Nat.lt_succ_self b), HPN.out]
                    · by_cases e2 : b < j
                      · rw [if_pos e2, if_pos (by omega)]
                      · rw [if_neg e2, if_neg (by omega)]
                  case measure => simp [intOf]; omega
              · have hge3 : m.n ≤ (j : Int) := by rw [HN.out]; omega
                obtain rfl : j = k := by omega
                have HR := Lib.hid hR
                have HB := Lib.hid hB
                clear hR hT hB
                go_wp2
                go_roundw
                case rel => exact ⟨s + 1, by omega, by go_num, HR.out.congr (fun b hb => by rw [if_pos hb]), HB.out, hszG⟩
                case measure => simp [intOf]; omega
          · obtain rfl : s = N := by omega
            have HL := Lib.hid ((HR.out.congr (fun b hb => show putN m x b s = frontsF m x b from by rw [HN2.out]; exact putN_fronts m x b)).rd)
            clear m0 m1
            go_wp2
            go_ret2
            unfold RetFronts
            rw [HF.out]
            exact ⟨some ⟨G, 0, none⟩, cap, by simp, HL.out, bthen HB.out HBs.out⟩
end Go.Proofs.Ytjdldmecjhddnaa
