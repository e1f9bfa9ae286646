/- The contracts of both CheckFronts. -/
import Derived.Test.YtjdldmecjhddnaaKRows
import Derived.Test.YtjdldmecjhddnaaKR12
namespace Go.Proofs.Ytjdldmecjhddnaa
open Go.RowKit
set_option linter.unusedVariables false
set_option linter.unusedSimpArgs false

/-- What CheckFronts says. -/
def checkF (m : Mk) (a : Int) (ll : List (List (Int × Int))) : Int := if askE m [] [a] [] ≠ 0 then askE m [] [a] [] else if ll = (frontsLF m a).1 then 0 else 81
set_option maxHeartbeats 2000000 in
set_option maxRecDepth 100000 in
theorem k_chk1 (xs ys : List (Int × Int)) (a b : Option Addr) (xn yn ca cb : Nat) (r : Bool) (w : World) (hxn : xs.length = xn) (hyn : ys.length = yn) (hr : decide (xs = ys) = r) (hx : RdP w a xs) (hy : RdP w b ys) (lx : xn ≤ 140737488355328) (ly : yn ≤ 140737488355328) :
    Calls Try.prog 97 #[.slice a xn ca, .slice b yn cb] w fun e w' => e = .returned (.bool r) ∧ Below w.heap.size w w' := by
  go_enter Try.func97, Try.ntmps97
  go_wp2_with fail
  refine (c_EqualP xs ys a b xn yn ca cb r _ hxn hyn hr hx hy lx ly).mono ?_
  rintro e w1 ⟨rfl, hb1⟩
  go_wp2
  go_ret
  exact ⟨rfl, hb1⟩
set_option maxHeartbeats 4000000 in
set_option maxRecDepth 100000 in
theorem c_EqualLL (xs ys : List (List (Int × Int))) (a b : Option Addr) (xn yn ca cb : Nat) (r : Bool) (w : World) (hxn : xs.length = xn) (hyn : ys.length = yn) (hr : decide (xs = ys) = r) (hx : RdLL w a xs) (hy : RdLL w b ys) (lx : xn ≤ 140737488355328) (ly : yn ≤ 140737488355328)
    (kx : ∀ l ∈ xs, l.length ≤ 140737488355328) (ky : ∀ l ∈ ys, l.length ≤ 140737488355328) :
    Calls Try.prog 96 #[.slice a xn ca, .slice b yn cb, .func (.func 97) #[] #[]] w fun e w' => e = .returned (.bool r) ∧ Below w.heap.size w w' := by
  have HXN := Lib.hid hxn
  have HYN := Lib.hid hyn
  have HR := Lib.hid hr
  have KX := Lib.hid kx
  have KY := Lib.hid ky
  clear hxn hyn hr kx ky
  have eg : Enters Try.prog 97 := enters_of Try.func97 (by kernel_rfl) rfl
  by_cases hne : xn = yn
  · obtain rfl := hne
    go_enter Try.func96, Try.ntmps96
    go_wp2_with fail
    go_loopw [17] (fun i wr => ∃ k : Nat, k ≤ xn ∧ i = .int .i64 k ∧ Hid (∀ j, j < k → xs[j]? = ys[j]?) ∧ Below w.heap.size w wr) (fun i _ => xn - (intOf i).toNat)
    case atStart => exact ⟨0, Nat.zero_le _, rfl, Lib.hid (fun j h => absurd h (Nat.not_lt_zero _)), Below.refl _ _⟩
    case round =>
      have HX := Lib.hid hx
      have HY := Lib.hid hy
      clear hx hy
      obtain ⟨k, hk, rfl, hall, hB⟩ := hrel
      by_cases hlt : k < xn
      · obtain ⟨b1, off1, l, ra, rc, rfl, h1, c1, r1⟩ := (HX.out.below hB).at (i := k) (by rw [HXN.out]; exact hlt)
        obtain ⟨b2, off2, m, rb, rd, rfl, h2, c2, r2⟩ := (HY.out.below hB).at (i := k) (by rw [HYN.out]; exact hlt)
        have H1 := Lib.hid h1
        have H2 := Lib.hid h2
        have hl1 := KX.out l (List.mem_of_getElem? h1)
        have hl2 := KY.out m (List.mem_of_getElem? h2)
        have R1 := Lib.hid r1
        have R2 := Lib.hid r2
        clear h1 h2 r1 r2
        cases he : decide (l = m) with
        | true =>
          have HE := Lib.hid he
          clear he
          go_wp2_with fail
          refine (k_chk1 l m ra rb _ _ rc rd true _ rfl rfl HE.out R1.out R2.out hl1 hl2).mono ?_
          rintro e w1 ⟨rfl, hb1⟩
          go_wp2
          go_roundw
          case rel =>
            refine ⟨k + 1, by omega, by go_num, Lib.hid (fun j hj => ?_), bthen hB hb1⟩
            by_cases e : j = k
            · subst e; rw [H1.out, H2.out, of_decide_eq_true HE.out]
            · exact hall.out j (by omega)
          case measure => simp [intOf]; omega
        | false =>
          have HE := Lib.hid he
          clear he
          go_wp2_with fail
          refine (k_chk1 l m ra rb _ _ rc rd false _ rfl rfl HE.out R1.out R2.out hl1 hl2).mono ?_
          rintro e w1 ⟨rfl, hb1⟩
          go_wp2
          go_ret
          refine ⟨ret_bool ?_, bthen hB hb1⟩
          rw [← HR.out]
          refine (decide_eq_false ?_).symm
          rintro rfl
          exact of_decide_eq_false HE.out (Option.some.inj (H1.out.symm.trans H2.out))
      · obtain rfl : k = xn := by omega
        go_wp2
        go_ret
        refine ⟨ret_bool ?_, hB⟩
        rw [← HR.out]
        exact (decide_eq_true ((eqL_cons (by rw [HXN.out, HYN.out])).1 (by rw [HXN.out]; exact hall.out))).symm
  · have t1 : ((xn : Int) != (yn : Int)) = true := by simp; omega
    go_enter Try.func96, Try.ntmps96
    go_wp2
    go_ret
    refine ⟨ret_bool ?_, Below.refl _ _⟩
    rw [← HR.out]
    refine (decide_eq_false ?_).symm
    rintro rfl
    exact hne (HXN.out.symm.trans HYN.out)
set_option maxHeartbeats 4000000 in
set_option maxRecDepth 100000 in
theorem k_CheckFronts (m : Mk) (mv : Value) (a : Int) (ll : List (List (Int × Int))) (la : Option Addr) (ln lc : Nat) (w : World) (hm : MkRd w m mv) (hln : ll.length = ln) (hl : RdLL w la ll) (hll : ln ≤ 140737488355328) (hkk : ∀ l ∈ ll, l.length ≤ 140737488355328) :
    Calls Try.prog 50 #[mv, .int .i64 a, .slice la ln lc] w fun e w' => e = .returned (.int .i64 (checkF m a ll)) ∧ Below w.heap.size w w' := by
  have HLN := Lib.hid hln
  have HL := Lib.hid hl
  have HLL := Lib.hid hkk
  clear hln hl hkk
  have HM := Lib.hid hm
  obtain ⟨ka, kc, oa, oc, rfl, _⟩ := hm
  have hB0 : Below w.heap.size w ((w.alloc (.cells #[.int .i64 m.n, .slice ka m.ks.length kc, .slice oa m.os.length oc] 24)).alloc (.cells #[.int .i64 a] 3)) := bal (bal (Below.refl _ _) _) _
  have hcalls := Lib.hid (k_asked m _ [] [a] [] none (some ⟨w.heap.size + 1, 0, none⟩) none 0 1 0 _ (HM.out.below hB0) Rd.nil (by simpa using rdI_new (w.alloc (.cells #[.int .i64 m.n, .slice ka m.ks.length kc, .slice oa m.os.length oc] 24)) [a] 3 : RdI _ (some ⟨w.heap.size + 1, 0, none⟩) [a]) Rd.nil (by decide) (by simp) (by simp))
  have HM0 := Lib.hid (cal (show (w.alloc (.cells #[.int .i64 m.n, .slice ka m.ks.length kc, .slice oa m.os.length oc] 24)).cell? ⟨w.heap.size, 0, none⟩ = some (.int .i64 m.n) from by simp) (.cells #[.int .i64 a] 3))
  have HM1 := Lib.hid (cal (show (w.alloc (.cells #[.int .i64 m.n, .slice ka m.ks.length kc, .slice oa m.os.length oc] 24)).cell? ⟨w.heap.size, 1, none⟩ = some (.slice ka m.ks.length kc) from by simp) (.cells #[.int .i64 a] 3))
  have HM2 := Lib.hid (cal (show (w.alloc (.cells #[.int .i64 m.n, .slice ka m.ks.length kc, .slice oa m.os.length oc] 24)).cell? ⟨w.heap.size, 2, none⟩ = some (.slice oa m.os.length oc) from by simp) (.cells #[.int .i64 a] 3))
  by_cases he : askE m [] [a] [] ≠ 0
  · have HF := Lib.hid (show checkF m a ll = askE m [] [a] [] from if_pos he)
    have HN := Lib.hid (show (askE m [] [a] [] != 0) = true from by rw [bne_iff_ne]; exact he)
    have hne := HN.out
    have HE := Lib.hid he
    clear he
    go_enter Try.func50, Try.ntmps50
    go_wp2_with fail
    refine hcalls.out.mono ?_
    rintro e w1 ⟨rfl, hb⟩
    have hB := bthen hB0 hb
    have m0 := below_cell hb HM0.out
    have m1 := below_cell hb HM1.out
    have m2 := below_cell hb HM2.out
    clear hcalls HM0 HM1 HM2 hB0 hb
    clear m0 m1 m2
    go_wp2
    go_ret
    exact ⟨ret_int HF.out.symm, hB⟩
  · have he0 : askE m [] [a] [] = 0 := Decidable.of_not_not he
    have HE := Lib.hid he0
    clear he
    obtain ⟨hok, hright, hcl, _⟩ := ask_0 he0
    have HOK := Lib.hid hok
    have hn8 := (okM hok).n8
    have hpl := pow_len hok
    have hca := List.all_eq_true.1 hcl a (by simp)
    simp only [okC, Bool.and_eq_true, decide_eq_true_eq] at hca
    obtain ⟨a0, a1⟩ := hca
    clear hcl
    obtain ⟨x, rfl⟩ := Int.eq_ofNat_of_zero_le a0
    have HFR := Lib.hid (show (frontsLF m (x : Int)).1 = (List.range m.n.toNat).map (frontsF m x) from by unfold frontsLF; rw [if_neg (by rw [HE.out]; simp)]; rfl)
    by_cases hd : ll = (List.range m.n.toNat).map (frontsF m x)
    · have HD := Lib.hid (show decide (ll = (List.range m.n.toNat).map (frontsF m x)) = true from decide_eq_true hd)
      have HF := Lib.hid (show checkF m (x : Int) ll = 0 from by unfold checkF; rw [if_neg (by rw [HE.out]; simp), HFR.out]; exact if_pos hd)
      clear hd he0
      go_enter Try.func50, Try.ntmps50
      go_wp2_with fail
      refine hcalls.out.mono ?_
      rintro e w1 ⟨rfl, hb⟩
      rw [HE.out]
      have hB := bthen hB0 hb
      have m0 := below_cell hb HM0.out
      have m1 := below_cell hb HM1.out
      have m2 := below_cell hb HM2.out
      clear hcalls HM0 HM1 HM2 hB0 hb
      go_wp2_with fail
      refine (k_frontsM m _ x _ (by exact HM.out.below hB) HOK.out a1).mono ?_
      rintro e w2 ⟨v, rfl, hFr, hb1⟩
      obtain ⟨va, vc, rfl, hrd⟩ := hFr.rd
      have HRD := Lib.hid hrd
      have hBz := bthen hB hb1
      clear hFr hb1 hB m0 m1 m2 hrd
      go_wp2_with fail
      refine (c_EqualLL ll ((List.range m.n.toNat).map (frontsF m x)) la va ln m.n.toNat lc vc true _ HLN.out (by simp) HD.out (by exact HL.out.below hBz) (by exact HRD.out) hll (by omega) HLL.out (fun l hl => by obtain ⟨b, _, rfl⟩ := List.mem_map.1 hl; have := frontsF_len m x b HOK.out; omega)).mono ?_
      rintro e w3 ⟨rfl, hb2⟩
      have hBy := bthen hBz hb2
      clear hb2 hBz
      go_wp2
      go_ret
      exact ⟨ret_int HF.out.symm, hBy⟩
    · have HD := Lib.hid (show decide (ll = (List.range m.n.toNat).map (frontsF m x)) = false from decide_eq_false hd)
      have HF := Lib.hid (show checkF m (x : Int) ll = 81 from by unfold checkF; rw [if_neg (by rw [HE.out]; simp), HFR.out]; exact if_neg hd)
      clear hd he0
      go_enter Try.func50, Try.ntmps50
      go_wp2_with fail
      refine hcalls.out.mono ?_
      rintro e w1 ⟨rfl, hb⟩
      rw [HE.out]
      have hB := bthen hB0 hb
      have m0 := below_cell hb HM0.out
      have m1 := below_cell hb HM1.out
      have m2 := below_cell hb HM2.out
      clear hcalls HM0 HM1 HM2 hB0 hb
      go_wp2_with fail
      refine (k_frontsM m _ x _ (by exact HM.out.below hB) HOK.out a1).mono ?_
      rintro e w2 ⟨v, rfl, hFr, hb1⟩
      obtain ⟨va, vc, rfl, hrd⟩ := hFr.rd
      have HRD := Lib.hid hrd
      have hBz := bthen hB hb1
      clear hFr hb1 hB m0 m1 m2 hrd
      go_wp2_with fail
      refine (c_EqualLL ll ((List.range m.n.toNat).map (frontsF m x)) la va ln m.n.toNat lc vc false _ HLN.out (by simp) HD.out (by exact HL.out.below hBz) (by exact HRD.out) hll (by omega) HLL.out (fun l hl => by obtain ⟨b, _, rfl⟩ := List.mem_map.1 hl; have := frontsF_len m x b HOK.out; omega)).mono ?_
      rintro e w3 ⟨rfl, hb2⟩
      have hBy := bthen hBz hb2
      clear hb2 hBz
      go_wp2
      go_ret
      exact ⟨ret_int HF.out.symm, hBy⟩

set_option maxHeartbeats 4000000 in
set_option maxRecDepth 100000 in
theorem r_CheckFronts (m : Mk) (mv : Value) (a : Int) (ll : List (List (Int × Int))) (la : Option Addr) (ln lc : Nat) (w : World) (hm : MkRd w m mv) (hln : ll.length = ln) (hl : RdLL w la ll) (hll : ln ≤ 140737488355328) (hkk : ∀ l ∈ ll, l.length ≤ 140737488355328) :
    Calls Try.prog 51 #[mv, .int .i64 a, .slice la ln lc] w fun e w' => e = .returned (.int .i64 (checkF m a ll)) ∧ Below w.heap.size w w' := by
  have HLN := Lib.hid hln
  have HL := Lib.hid hl
  have HLL := Lib.hid hkk
  clear hln hl hkk
  have HM := Lib.hid hm
  obtain ⟨ka, kc, oa, oc, rfl, _⟩ := hm
  have hB0 := Lib.hid (bal (Below.refl w.heap.size w) (.cells #[.int .i64 m.n, .slice ka m.ks.length kc, .slice oa m.os.length oc] 24))
  have hcalls := Lib.hid (r_Fronts m _ a _ (HM.out.below hB0.out))
  by_cases he : askE m [] [a] [] ≠ 0
  · have HF := Lib.hid (show checkF m a ll = askE m [] [a] [] from if_pos he)
    have HFR := Lib.hid (show frontsLF m a = ([], askE m [] [a] []) from if_pos he)
    have hne : (askE m [] [a] [] != 0) = true := by rw [bne_iff_ne]; exact he
    clear he
    go_enter Try.func51, Try.ntmps51
    go_wp2_with fail
    refine hcalls.out.mono ?_
    rintro e w1 h
    obtain ⟨va, vc, rfl, hrd, hb⟩ := h
    rw [HFR.out]
    have hB := bthen hB0.out hb
    clear hcalls hB0 hb hrd
    go_wp2
    go_ret
    exact ⟨ret_int HF.out.symm, hB⟩
  · have he0 : askE m [] [a] [] = 0 := Decidable.of_not_not he
    obtain ⟨rows, hrows⟩ : ∃ rows, frontsLF m a = (rows, 0) := ⟨(frontsLF m a).1, by unfold frontsLF; rw [if_neg he]⟩
    have hlen := frontsLF_len m a
    rw [hrows] at hlen
    have HROW := Lib.hid hrows
    have HLE := Lib.hid hlen
    have HF := Lib.hid (show checkF m a ll = if ll = rows then 0 else 81 from by unfold checkF; rw [if_neg he, hrows])
    obtain ⟨n, hn⟩ : ∃ n, rows.length = n := ⟨_, rfl⟩
    have hn8 : n ≤ 8 := by rw [← hn]; exact hlen.1
    have HN := Lib.hid hn
    clear he he0 hrows hlen hn
    by_cases hd : ll = rows
    all_goals
      first
        | (have HD := Lib.hid (show decide (rows = ll) = true from decide_eq_true hd.symm))
        | (have HD := Lib.hid (show decide (rows = ll) = false from decide_eq_false (fun e => hd e.symm)))
      have HHD := Lib.hid hd
      clear hd
      go_enter Try.func51, Try.ntmps51
      go_wp2_with fail
      refine hcalls.out.mono ?_
      rintro e w1 h
      obtain ⟨va, vc, rfl, hrd, hb⟩ := h
      rw [HROW.out] at hrd ⊢
      have HRD := Lib.hid hrd
      have hB := bthen hB0.out hb
      clear hcalls hB0 hb hrd
      go_wp2_with fail
      refine (r_SameFronts rows ll va la _ ln vc lc _ _ rfl HLN.out HD.out (by exact HRD.out) (by exact HL.out.below hB) (by rw [HN.out]; omega) hll (fun l hl => by have := HLE.out.2 l hl; omega) HLL.out).mono ?_
      rintro e w2 ⟨rfl, hb2⟩
      have hBz := bthen hB hb2
      clear hb2 hB
      go_wp2
      go_ret
      first
        | exact ⟨ret_int (by rw [HF.out, if_pos HHD.out]), hBz⟩
        | exact ⟨ret_int (by rw [HF.out, if_neg HHD.out]), hBz⟩
end Go.Proofs.Ytjdldmecjhddnaa
