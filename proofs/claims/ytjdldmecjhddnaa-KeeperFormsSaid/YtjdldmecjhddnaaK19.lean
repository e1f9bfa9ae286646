/- The contract of keeper.Widths. -/
import Derived.Test.YtjdldmecjhddnaaKRows
import Derived.Test.YtjdldmecjhddnaaKR4
namespace Go.Proofs.Ytjdldmecjhddnaa
open Go.RowKit
set_option linter.unusedVariables false
set_option linter.unusedSimpArgs false

set_option maxHeartbeats 4000000 in
set_option maxRecDepth 100000 in
theorem k_Widths (m : Mk) (mv : Value) (l : List Int) (la : Option Addr) (lc : Nat) (w : World) (hm : MkRd w m mv) (hl : RdI w la l) (hll : l.length ≤ 140737488355328) :
    Calls Try.prog 55 #[mv, .slice la l.length lc] w fun e w' => ∃ va vc, e = .returned (.tuple #[.slice va (widthsF m l).1.length vc, .int .i64 (widthsF m l).2]) ∧ RdLI w' va (widthsF m l).1 ∧ Below w.heap.size w w' := by
  have HM := Lib.hid hm
  obtain ⟨ka, kc, oa, oc, rfl, _⟩ := hm
  have hB0 : Below w.heap.size w (w.alloc (.cells #[.int .i64 m.n, .slice ka m.ks.length kc, .slice oa m.os.length oc] 24)) := bal (Below.refl _ _) _
  have hcalls := Lib.hid (k_asked m _ l [] [] la none none lc 0 0 _ (HM.out.below hB0) (hl.below hB0) Rd.nil Rd.nil hll (by simp) (by simp))
  have HM0 := Lib.hid (show (w.alloc (.cells #[.int .i64 m.n, .slice ka m.ks.length kc, .slice oa m.os.length oc] 24)).cell? ⟨w.heap.size, 0, none⟩ = some (.int .i64 m.n) from by simp)
  have HM1 := Lib.hid (show (w.alloc (.cells #[.int .i64 m.n, .slice ka m.ks.length kc, .slice oa m.os.length oc] 24)).cell? ⟨w.heap.size, 1, none⟩ = some (.slice ka m.ks.length kc) from by simp)
  have HM2 := Lib.hid (show (w.alloc (.cells #[.int .i64 m.n, .slice ka m.ks.length kc, .slice oa m.os.length oc] 24)).cell? ⟨w.heap.size, 2, none⟩ = some (.slice oa m.os.length oc) from by simp)
  by_cases he : askE m l [] [] ≠ 0
  · have HF := Lib.hid (show widthsF m l = ([], askE m l [] []) from if_pos he)
    have HN := Lib.hid (show (askE m l [] [] != 0) = true from by rw [bne_iff_ne]; exact he)
    have hne := HN.out
    have HE := Lib.hid he
    clear he
    go_enter Try.func55, Try.ntmps55
    go_wp2_with fail
    refine hcalls.out.mono ?_
    rintro e w1 ⟨rfl, hb⟩
    have hB := bthen hB0 hb
    have m0 := below_cell hb HM0.out
    have m1 := below_cell hb HM1.out
    have m2 := below_cell hb HM2.out
    clear hcalls HM0 HM1 HM2 hB0 hb
    clear m0 m1 m2
    go_wp2
    go_ret2
    rw [HF.out]
    exact ⟨_, _, rfl, RdLI.nil, hB⟩
  · have he0 : askE m l [] [] = 0 := Decidable.of_not_not he
    have HE := Lib.hid he0
    clear he
    obtain ⟨hok, hright, hcl, _⟩ := ask_0 he0
    have HOK := Lib.hid hok
    have hpl := pow_len hok
    clear hcl
    have h12 := (okM hok).o12
    have n2 := (okM hok).n2
    have n8 := (okM hok).n8
    have hln := right_len hright h12
    have hst := setN_two (right_bd hright)
    have hbs := bits_setN hright h12
    have hrb : ∀ x ∈ l, 0 ≤ x ∧ x < 12 := fun x hx => by have := right_bd hright x hx; omega
    have HRB := Lib.hid hrb
    have HRL := Lib.hid hl
    obtain ⟨Z, hZ⟩ : ∃ Z, Z = setN l := ⟨_, rfl⟩
    rw [← hZ] at hst hbs
    have HZ := Lib.hid hZ
    clear hZ hrb hright h12 hok
    have HK := fun W (h : MkRd W m (.agg #[.int .i64 m.n, .slice ka m.ks.length kc, .slice oa m.os.length oc])) => k_widthsM Z m _ W h HOK.out hst
    rw [hbs] at HK
    obtain ⟨DD, hDD⟩ : ∃ DD, DD = wd m.n.toNat (comps m l) := ⟨_, rfl⟩
    have HF := Lib.hid (show widthsF m l = (tabRows m.n.toNat (fun a b => unk (DD a b)), 0) from by unfold widthsF; rw [if_neg (by rw [he0]; simp), hDD])
    rw [← hDD] at HK
    obtain ⟨n, hn⟩ : ∃ n : Nat, m.n = n := ⟨m.n.toNat, by omega⟩
    rw [hn] at n2 n8
    have hnn : m.n.toNat = n := by omega
    rw [hnn] at HK HF
    have HN := Lib.hid hn
    have HKK := Lib.hid HK
    clear HK hbs hDD hl he0 hn hnn
    go_enter Try.func55, Try.ntmps55
    go_wp2_with fail
    refine hcalls.out.mono ?_
    rintro e w1 ⟨rfl, hb⟩
    rw [HE.out]
    have hB := bthen hB0 hb
    have m0 := below_cell hb HM0.out
    have m1 := below_cell hb HM1.out
    have m2 := below_cell hb HM2.out
    clear hcalls HM0 HM1 HM2 hB0 hb
    go_wp2_with fail
    go_region_held3 (fun w' => w'.cell? ⟨w.heap.size, 0, none⟩ = some (.int .i64 m.n) ∧ w'.cell? ⟨w.heap.size, 1, none⟩ = some (.slice ka m.ks.length kc) ∧ w'.cell? ⟨w.heap.size, 2, none⟩ = some (.slice oa m.os.length oc)) (first | go_keep | (go_split_ands; exact ⟨below_cell hb1 ‹_›, below_cell hb1 ‹_›, below_cell hb1 ‹_›⟩) | fail)
      (first
        | (go_at_call 84; refine (k_setOf l _ _ _ (by exact HRL.out.below hB.drew) HRB.out hln).mono ?_; rintro e wq ⟨rfl, rfl⟩; rw [← HZ.out])
        | (go_at_call 75; refine (HKK.out _ (by exact HM.out.below hB.drew)).mono ?_; rintro e w2 ⟨v, rfl, ⟨g, cap, f, c, rfl, hT⟩, hb1⟩))
    have hBz := hB.drew.trans (hb1.mono hB.size)
    replace m0 := below_cell hb1 (cdw m0)
    have HT := Lib.hid hT
    have M0 := Lib.hid m0
    have HBZ := Lib.hid hBz
    have hsz := hBz.size
    clear hT hb1 hB m1 m2 hBz
    go_wp2_with fail
    clear m0
    go_loopw [8, 25] (fun v i wr => ∃ k : Nat, k ≤ n ∧ i = .int .i64 k ∧ (∃ f2 c2, TabA wr w2.heap.size v k n f2 c2 (fun a b => unk (DD a b))) ∧ Below w2.heap.size w2 wr) (fun _ i _ => n - (intOf i).toNat)
    case atStart => exact ⟨0, Nat.zero_le _, rfl, ⟨fun _ => 0, fun _ => 0, World.ownsRow_nil _ _ _ _, fun a h => absurd h (Nat.not_lt_zero _), fun a b h => absurd h (Nat.not_lt_zero _), fun a b h => absurd h (Nat.not_lt_zero _), fun a b h => absurd h (Nat.not_lt_zero _)⟩, Below.refl _ _⟩
    case round =>
      obtain ⟨k, hk, rfl, ⟨f2, c2, hA⟩, hB⟩ := hrel
      have HA := Lib.hid hA
      have HB := Lib.hid hB
      have m0 := below_cell hB M0.out
      have hsz0 := hB.size
      clear hA hB
      by_cases hlt : k < n
      · have hlt' : (k : Int) < m.n := by rw [HN.out]; omega
        obtain ⟨wo, rfl⟩ : ∃ wo : World, wo = wr := ⟨_, rfl⟩
        have M1 := Lib.hid m0
        clear m0
        have m0 := M1.out
        go_wp2_with fail
        clear m0
        go_loopw [10, 30] (fun v i wr => ∃ j : Nat, j ≤ n ∧ i = .int .i64 j ∧ wr.ownsRow wo.heap.size 3 1 v j (((List.range j).map fun b => unk (DD k b)).map (Value.int .i64)) ∧ Below wo.heap.size wo wr) (fun _ i _ => n - (intOf i).toNat)
        case atStart => exact ⟨0, Nat.zero_le _, rfl, World.ownsRow_nil _ _ _ _, Below.refl _ _⟩
        case round =>
          obtain ⟨j, hj, rfl, hown, hB2⟩ := hrel
          have hT2 := HT.out.below (bthen HB.out hB2)
          by_cases hlt2 : j < n
          · have hlt2' : (j : Int) < m.n := by rw [HN.out]; omega
            have p1 := hT2.row k hlt
            have p2 := hT2.cell k j hlt hlt2
            clear hT2
            obtain ⟨X, hX⟩ : ∃ X, Hid (X = DD k j) := ⟨_, Lib.hid rfl⟩
            rw [← hX.out] at p2
            by_cases hd : 1099511627776 ≤ X
            · have HU := Lib.hid (show unk (DD k j) = -1 from by unfold unk; rw [← hX.out, if_pos hd])
              go_wp2_with (at_builtin; refine ap1 rfl _ _ 27 rfl wo.heap.size 3 (.int .i64 0) 1 8 info_int Try.underlying27 rfl (by decide) (by decide) _ _ _ rfl hown [.int .i64 (-1)] rfl rfl rfl (by omega) hB2.size ?_; intro v' w5 hown5 hgr hat hnn)
              go_roundw
              case rel => exact ⟨j + 1, by omega, by go_num, by rw [List.range_succ, List.map_append, List.map_append, List.map_cons, HU.out]; exact hown5, hB2.grown hgr hB2.size (fun q e => (hown.lt q e).1)⟩
              case measure => simp [intOf]; omega
            · have HU := Lib.hid (show unk (DD k j) = X from by unfold unk; rw [← hX.out, if_neg hd])
              go_wp2_with (at_builtin; refine ap1 rfl _ _ 27 rfl wo.heap.size 3 (.int .i64 0) 1 8 info_int Try.underlying27 rfl (by decide) (by decide) _ _ _ rfl hown [.int .i64 X] rfl rfl rfl (by omega) hB2.size ?_; intro v' w5 hown5 hgr hat hnn)
              go_roundw
              case rel => exact ⟨j + 1, by omega, by go_num, by rw [List.range_succ, List.map_append, List.map_append, List.map_cons, HU.out]; exact hown5, hB2.grown hgr hB2.size (fun q e => (hown.lt q e).1)⟩
              case measure => simp [intOf]; omega
          · have hge2 : m.n ≤ (j : Int) := by rw [HN.out]; omega
            obtain rfl : j = n := by omega
            clear hT2
            obtain ⟨g2, cp, rfl⟩ : ∃ g2 cp, u10 = .slice (some ⟨g2, 0, none⟩) j cp := by
              rcases hown.2 with ⟨_, h0⟩ | ⟨g2, cap, cur, e, _⟩
              · omega
              · exact ⟨g2, cap, e⟩
            have hA1 := HA.out.below hB2
            have hne : Hid (∀ a, a < k → f2 a ≠ g2) := Lib.hid (fun a ha e => by have h1 := World.block_lt_of_cell? wo _ (HA.out.cell a 0 ha (by omega)); have h2 := (hown.lt g2 rfl).1; rw [e] at h1; simp at h1; omega)
            have HA1 := Lib.hid hA1
            have HOWN := Lib.hid hown
            have hsz2 := hB2.size
            have HB2 := Lib.hid (bthen HB.out hB2)
            clear hown hA1 hB2 HA
            go_wp2_with (at_builtin; refine ap1 rfl _ _ 75 rfl w2.heap.size 27 (.slice none 0 0) 1 24 info_ints Try.underlying75 rfl (by decide) (by decide) _ _ _ rfl HA1.out.own [.slice (some ⟨g2, 0, none⟩) j cp] rfl rfl rfl (by omega) (by omega) ?_; intro v' w6 hown6 hgr hat hnn)
            go_roundw
            case rel =>
              refine ⟨k + 1, by omega, by go_num, ⟨_, _, (HA1.out.add (by omega) HOWN.out (by simp) (by omega) hne.out hgr hown6 (hat.imp id (fun e => ⟨_, e, by omega⟩))).congr (fun a b ha hb => ?_)⟩, HB2.out.grown hgr HB2.out.size (fun q e => (HA1.out.own.lt q e).1)⟩
              by_cases e : a = k
              · subst e
                rw [if_pos rfl, List.getD_eq_getElem?_getD, List.getElem?_map, List.getElem?_range hb]; rfl
              · rw [if_neg e]
            case measure => simp [intOf]; omega
      · have hge : m.n ≤ (k : Int) := by rw [HN.out]; omega
        obtain rfl : k = n := by omega
        obtain ⟨g2, cap2, hv, hTF⟩ := HA.out.done (by omega)
        have HV := Lib.hid hv
        subst hv
        have HR := Lib.hid hTF.rd
        clear hTF HA
        go_wp2
        go_ret2
        rw [HF.out]
        refine ⟨some ⟨g2, 0, none⟩, ⟨cap2, ?_⟩, HR.out, bthen HBZ.out HB.out⟩
        show Ending.returned (.tuple #[.slice (some ⟨g2, 0, none⟩) k cap2, .int .i64 0]) = _
        rw [tabRows_len]

end Go.Proofs.Ytjdldmecjhddnaa
