/- The contracts of keeper.Fronts, slices.Equal of ints, SameFronts, few. -/
import Derived.Test.YtjdldmecjhddnaaK16
namespace Go.Proofs.Ytjdldmecjhddnaa
open Go.RowKit
set_option linter.unusedVariables false
set_option linter.unusedSimpArgs false

/-- The slice at a reads as ll, a list of lists of pairs. -/
def RdLL (w : World) (a : Option Addr) (ll : List (List (Int × Int))) : Prop :=
  ll ≠ [] → ∃ b off, a = some ⟨b, off, none⟩ ∧ ∀ i l, ll[i]? = some l → ∃ ra rc, w.cell? ⟨b, off + i, none⟩ = some (.slice ra l.length rc) ∧ RdP w ra l
theorem RdLL.nil {w : World} {a : Option Addr} : RdLL w a [] := fun h => absurd rfl h
theorem RdLL.below {w w' : World} {a : Option Addr} {ll : List (List (Int × Int))} (h : RdLL w a ll) (hb : Below w.heap.size w w') : RdLL w' a ll := by
  intro hne
  obtain ⟨b, off, e, hc⟩ := h hne
  refine ⟨b, off, e, fun i l hl => ?_⟩
  obtain ⟨ra, rc, h1, h2⟩ := hc i l hl
  exact ⟨ra, rc, below_cell hb h1, h2.below hb⟩
theorem RdLL.at {w : World} {a : Option Addr} {ll : List (List (Int × Int))} (h : RdLL w a ll) {i : Nat} (hi : i < ll.length) :
    ∃ b off l ra rc, a = some ⟨b, off, none⟩ ∧ ll[i]? = some l ∧ w.cell? ⟨b, off + i, none⟩ = some (.slice ra l.length rc) ∧ RdP w ra l := by
  obtain ⟨b, off, e, hc⟩ := h (by intro e; rw [e] at hi; simp at hi)
  obtain ⟨ra, rc, h1, h2⟩ := hc i ll[i] (by simp [hi])
  exact ⟨b, off, _, ra, rc, e, by simp [hi], h1, h2⟩
theorem Fr.rd {w : World} {base : Nat} {e : TypeId} {v : Value} {n : Nat} {L : Nat → List (Int × Int)} (h : Fr w base e v n L) : ∃ va vc, v = .slice va n vc ∧ RdLL w va ((List.range n).map L) := by
  obtain ⟨G, cap, V, rfl, hb, hF⟩ := h
  refine ⟨_, _, rfl, fun _ => ⟨G, 0, rfl, fun i l hl => ?_⟩⟩
  rw [List.getElem?_map] at hl
  have hi : i < n := by
    rcases Nat.lt_or_ge i n with h' | h'
    · exact h'
    · rw [List.getElem?_eq_none (by simpa using h')] at hl; cases hl
  rw [List.getElem?_range hi] at hl
  obtain rfl : L i = l := by simpa using hl
  obtain ⟨ra, rc, e1, e2⟩ := own_rd (enc := encP) (k := 2) (fun _ => rfl) (hF.own i hi)
  exact ⟨ra, rc, by rw [Nat.zero_add, hF.cell i hi, e1], e2⟩
/-- What Fronts hands back: fronts, an error. -/
def frontsLF (m : Mk) (a : Int) : List (List (Int × Int)) × Int := if askE m [] [a] [] ≠ 0 then ([], askE m [] [a] []) else ((List.range m.n.toNat).map (frontsF m a.toNat), 0)
theorem frontsF_len (m : Mk) (a b : Nat) (h : m.ok = true) : (frontsF m a b).length ≤ 4096 := by
  have h1 := frontP_len (prS m a b (2 ^ m.os.length))
  have h2 := prS_len m a b (2 ^ m.os.length)
  have h3 := pow_len h
  unfold frontsF
  omega
theorem frontsLF_len (m : Mk) (a : Int) : (frontsLF m a).1.length ≤ 8 ∧ ∀ l ∈ (frontsLF m a).1, l.length ≤ 4096 := by
  unfold frontsLF
  split
  · simp
  · rename_i h
    have hok := (ask_0 (Decidable.of_not_not h)).1
    have := (okM hok).n8
    have := (okM hok).n2
    refine ⟨by simp; omega, fun l hl => ?_⟩
    obtain ⟨b, _, rfl⟩ := List.mem_map.1 hl
    exact frontsF_len m _ b hok
theorem k_frontsM (m : Mk) (mv : Value) (a : Nat) (w : World) (hm : MkRd w m mv) (hok : m.ok = true) (ha : (a : Int) < m.n) :
    Calls Try.prog 85 #[mv, .int .i64 (a : Int)] w fun e w' => ∃ v, e = .returned v ∧ Fr w' w.heap.size 54 v m.n.toNat (frontsF m a) ∧ Below w.heap.size w w' := by
  obtain ⟨n, ks, os⟩ := m
  have h2 := (okM hok).n2
  simp only at h2 ha
  obtain ⟨y, rfl⟩ := Int.eq_ofNat_of_zero_le (show 0 ≤ n by omega)
  exact k_fronts1 y a ks os mv w hm hok (by omega)

set_option maxHeartbeats 4000000 in
set_option maxRecDepth 100000 in
theorem k_Fronts (m : Mk) (mv : Value) (a : Int) (w : World) (hm : MkRd w m mv) :
    Calls Try.prog 31 #[mv, .int .i64 a] w fun e w' => ∃ va vc, e = .returned (.tuple #[.slice va (frontsLF m a).1.length vc, .int .i64 (frontsLF m a).2]) ∧ RdLL w' va (frontsLF m a).1 ∧ Below w.heap.size w w' := by
  have HM := Lib.hid hm
  obtain ⟨ka, kc, oa, oc, rfl, _⟩ := hm
  have hB0 : Below w.heap.size w ((w.alloc (.cells #[.int .i64 m.n, .slice ka m.ks.length kc, .slice oa m.os.length oc] 24)).alloc (.cells #[.int .i64 a] 3)) := bal (bal (Below.refl _ _) _) _
  have hcalls := Lib.hid (k_asked m _ [] [a] [] none (some ⟨w.heap.size + 1, 0, none⟩) none 0 1 0 _ (HM.out.below hB0) Rd.nil (by simpa using rdI_new (w.alloc (.cells #[.int .i64 m.n, .slice ka m.ks.length kc, .slice oa m.os.length oc] 24)) [a] 3 : RdI _ (some ⟨w.heap.size + 1, 0, none⟩) [a]) Rd.nil (by decide) (by simp) (by simp))
  have HM0 := Lib.hid (cal (show (w.alloc (.cells #[.int .i64 m.n, .slice ka m.ks.length kc, .slice oa m.os.length oc] 24)).cell? ⟨w.heap.size, 0, none⟩ = some (.int .i64 m.n) from by simp) (.cells #[.int .i64 a] 3))
  have HM1 := Lib.hid (cal (show (w.alloc (.cells #[.int .i64 m.n, .slice ka m.ks.length kc, .slice oa m.os.length oc] 24)).cell? ⟨w.heap.size, 1, none⟩ = some (.slice ka m.ks.length kc) from by simp) (.cells #[.int .i64 a] 3))
  have HM2 := Lib.hid (cal (show (w.alloc (.cells #[.int .i64 m.n, .slice ka m.ks.length kc, .slice oa m.os.length oc] 24)).cell? ⟨w.heap.size, 2, none⟩ = some (.slice oa m.os.length oc) from by simp) (.cells #[.int .i64 a] 3))
  by_cases he : askE m [] [a] [] ≠ 0
  · have HF := Lib.hid (show frontsLF m a = ([], askE m [] [a] []) from if_pos he)
    have HN := Lib.hid (show (askE m [] [a] [] != 0) = true from by rw [bne_iff_ne]; exact he)
    have hne := HN.out
    have HE := Lib.hid he
    clear he
    go_enter Try.func31, Try.ntmps31
    go_wp2_with fail
    refine hcalls.out.mono ?_
    rintro e w1 ⟨rfl, hb⟩
    have hB := bthen hB0 hb
    have m0 := below_cell hb HM0.out
    have m1 := below_cell hb HM1.out
    have m2 := below_cell hb HM2.out
    clear hcalls HM0 HM1 HM2 hB0 hb
    clear m0 m1 m2
    go_wp2
    go_ret2
    rw [HF.out]
    exact ⟨_, _, rfl, RdLL.nil, hB⟩
  · have he0 : askE m [] [a] [] = 0 := Decidable.of_not_not he
    have HE := Lib.hid he0
    clear he
    obtain ⟨hok, hright, hcl, _⟩ := ask_0 he0
    have HOK := Lib.hid hok
    have hpl := pow_len hok
    have hca := List.all_eq_true.1 hcl a (by simp)
    simp only [okC, Bool.and_eq_true, decide_eq_true_eq] at hca
    obtain ⟨a0, a1⟩ := hca
    clear hcl
    obtain ⟨x, rfl⟩ := Int.eq_ofNat_of_zero_le a0
    have HF := Lib.hid (show frontsLF m (x : Int) = ((List.range m.n.toNat).map (frontsF m x), 0) from by unfold frontsLF; rw [if_neg (by rw [HE.out]; simp)]; rfl)
    clear he0 hok hright hpl
    go_enter Try.func31, Try.ntmps31
    go_wp2_with fail
    refine hcalls.out.mono ?_
    rintro e w1 ⟨rfl, hb⟩
    rw [HE.out]
    have hB := bthen hB0 hb
    have m0 := below_cell hb HM0.out
    have m1 := below_cell hb HM1.out
    have m2 := below_cell hb HM2.out
    clear hcalls HM0 HM1 HM2 hB0 hb
    go_wp2_with fail
    refine (k_frontsM m _ x _ (by exact HM.out.below hB) HOK.out a1).mono ?_
    rintro e w2 ⟨v, rfl, hFr, hb1⟩
    obtain ⟨va, vc, rfl, hrd⟩ := hFr.rd
    have hBz := bthen hB hb1
    clear hFr hb1 hB m0 m1 m2
    go_wp2
    go_ret2
    rw [HF.out]
    exact ⟨va, vc, by simp, hrd, hBz⟩

theorem eqL_cons {α : Type} [DecidableEq α] {xs ys : List α} (hl : xs.length = ys.length) : (∀ j, j < xs.length → xs[j]? = ys[j]?) ↔ xs = ys := by
  constructor
  · intro h
    refine List.ext_getElem? fun j => ?_
    rcases Nat.lt_or_ge j xs.length with h' | h'
    · exact h j h'
    · rw [List.getElem?_eq_none h', List.getElem?_eq_none (by omega)]
  · rintro rfl j _; rfl

set_option maxHeartbeats 1000000 in
set_option maxRecDepth 100000 in
theorem c_Equal (xs ys : List Int) (a b : Option Addr) (xn yn ca cb : Nat) (r : Bool) (w : World) (hxn : xs.length = xn) (hyn : ys.length = yn) (hr : decide (xs = ys) = r) (hx : RdI w a xs) (hy : RdI w b ys) (lx : xn ≤ 140737488355328) (ly : yn ≤ 140737488355328) :
    Calls Try.prog 21 #[.slice a xn ca, .slice b yn cb] w fun e w' => e = .returned (.bool r) ∧ Below w.heap.size w w' := by
  have HXN := Lib.hid hxn
  have HYN := Lib.hid hyn
  have HR := Lib.hid hr
  clear hxn hyn hr
  by_cases hne : xn = yn
  · obtain rfl := hne
    go_enter Try.func21, Try.ntmps21
    go_wp2
    go_loopw [13] (fun i wr => ∃ k : Nat, k ≤ xn ∧ i = .int .i64 k ∧ Hid (∀ j, j < k → xs[j]? = ys[j]?) ∧ Below w.heap.size w wr) (fun i _ => xn - (intOf i).toNat)
    case atStart => exact ⟨0, Nat.zero_le _, rfl, Lib.hid (fun j h => absurd h (Nat.not_lt_zero _)), Below.refl _ _⟩
    case round =>
      have HX := Lib.hid hx
      have HY := Lib.hid hy
      clear hx hy
      obtain ⟨k, hk, rfl, hall, hB⟩ := hrel
      by_cases hlt : k < xn
      · obtain ⟨b1, off1, x, rfl, h1, c1⟩ := (HX.out.below hB).ati (i := k) (by rw [HXN.out]; exact hlt)
        obtain ⟨b2, off2, y, rfl, h2, c2⟩ := (HY.out.below hB).ati (i := k) (by rw [HYN.out]; exact hlt)
        have H1 := Lib.hid h1
        have H2 := Lib.hid h2
        clear h1 h2
        by_cases he : x = y
        · subst he
          have t1 : (x != x) = false := by simp
          go_wp2
          go_quiet (fail)
          go_wp2
          go_roundw
          case rel =>
            refine ⟨k + 1, by omega, by go_num, Lib.hid (fun j hj => ?_), bdrN hB _⟩
            by_cases e : j = k
            · subst e; rw [H1.out, H2.out]
            · exact hall.out j (by omega)
          case measure => simp [intOf]; omega
        · have t1 : (x != y) = true := by simp [he]
          have HE := Lib.hid he
          clear he
          go_wp2
          go_quiet (fail)
          go_wp2
          go_ret
          refine ⟨ret_bool ?_, bdrN hB _⟩
          rw [← HR.out]
          refine (decide_eq_false ?_).symm
          rintro rfl
          exact HE.out (Option.some.inj (H1.out.symm.trans H2.out))
      · obtain rfl : k = xn := by omega
        go_wp2
        go_ret
        refine ⟨ret_bool ?_, hB⟩
        rw [← HR.out]
        exact (decide_eq_true ((eqL_cons (by rw [HXN.out, HYN.out])).1 (by rw [HXN.out]; exact hall.out))).symm
  · have t1 : ((xn : Int) != (yn : Int)) = true := by simp; omega
    go_enter Try.func21, Try.ntmps21
    go_wp2
    go_ret
    refine ⟨ret_bool ?_, Below.refl _ _⟩
    rw [← HR.out]
    refine (decide_eq_false ?_).symm
    rintro rfl
    exact hne (HXN.out.symm.trans HYN.out)

theorem eq_int (d : Nat) (a b : Int) (w : World) : (Op.equalIn (d + 1) 3 (.int .i64 a) (.int .i64 b)).run Try.prog w = .ok (a == b) w := by
  unfold Op.equalIn
  simp [run_underlying Try.underlying3]
theorem eqP (a b c d : Int) (w : World) : (Op.equalIn 10000 54 (.agg #[.int .i64 a, .int .i64 b]) (.agg #[.int .i64 c, .int .i64 d])).run Try.prog w = .ok (a == c && b == d) w := by
  show (Op.equalIn (9998 + 1 + 1) 54 (.agg #[.int .i64 a, .int .i64 b]) (.agg #[.int .i64 c, .int .i64 d])).run Try.prog w = _
  unfold Op.equalIn
  have h : ∀ (x y : Int) (w : World), (Op.equalIn 9999 3 (.int .i64 x) (.int .i64 y)).run Try.prog w = .ok (x == y) w := fun (x y : Int) (w : World) => eq_int 9998 x y w
  have hs : ∀ w, (Go.sizeOf 3).run Try.prog w = .ok 1 w := Try.sizeOf3
  have hp0 : ∀ (x y : Int) (w : World), (part 3 #[.int .i64 x, .int .i64 y] 0).run Try.prog w = .ok (.int .i64 x) w := fun x y w => by go_simp <;> rfl
  have hp1 : ∀ (x y : Int) (w : World), (part 3 #[.int .i64 x, .int .i64 y] 1).run Try.prog w = .ok (.int .i64 y) w := fun x y w => by go_simp <;> rfl
  by_cases h1 : a = c <;> by_cases h2 : b = d <;> simp [run_underlying Try.underlying54, hs, h, hp0, hp1, List.range', h1, h2]

set_option maxHeartbeats 2000000 in
set_option maxRecDepth 100000 in
theorem r_SameFronts (xs ys : List (List (Int × Int))) (a b : Option Addr) (xn yn ca cb : Nat) (r : Bool) (w : World) (hxn : xs.length = xn) (hyn : ys.length = yn) (hr : decide (xs = ys) = r) (hx : RdLL w a xs) (hy : RdLL w b ys) (lx : xn ≤ 140737488355328) (ly : yn ≤ 140737488355328)
    (kx : ∀ l ∈ xs, l.length ≤ 140737488355328) (ky : ∀ l ∈ ys, l.length ≤ 140737488355328) :
    Calls Try.prog 33 #[.slice a xn ca, .slice b yn cb] w fun e w' => e = .returned (.bool r) ∧ Below w.heap.size w w' := by
  have HXN := Lib.hid hxn
  have HYN := Lib.hid hyn
  have HR := Lib.hid hr
  have KX := Lib.hid kx
  have KY := Lib.hid ky
  clear hxn hyn hr kx ky
  by_cases hne : xn = yn
  · obtain rfl := hne
    go_enter Try.func33, Try.ntmps33
    go_wp2
    go_loopw [5] (fun i wr => ∃ k : Nat, k ≤ xn ∧ i = .int .i64 k ∧ Hid (∀ j, j < k → xs[j]? = ys[j]?) ∧ Below w.heap.size w wr) (fun i _ => xn - (intOf i).toNat)
    case atStart => exact ⟨0, Nat.zero_le _, rfl, Lib.hid (fun j h => absurd h (Nat.not_lt_zero _)), Below.refl _ _⟩
    case round =>
      have HX := Lib.hid hx
      have HY := Lib.hid hy
      clear hx hy
      obtain ⟨k, hk, rfl, hall, hB⟩ := hrel
      by_cases hlt : k < xn
      · obtain ⟨b1, off1, l, ra, rc, rfl, h1, c1, r1⟩ := (HX.out.below hB).at (i := k) (by rw [HXN.out]; exact hlt)
        obtain ⟨b2, off2, m, rb, rd, rfl, h2, c2, r2⟩ := (HY.out.below hB).at (i := k) (by rw [HYN.out]; exact hlt)
        have H1 := Lib.hid h1
        have H2 := Lib.hid h2
        have hl1 := KX.out l (List.mem_of_getElem? h1)
        have hl2 := KY.out m (List.mem_of_getElem? h2)
        have R1 := Lib.hid r1
        have R2 := Lib.hid r2
        clear h1 h2 r1 r2
        by_cases he : l.length = m.length
        · obtain ⟨ln, hln⟩ : ∃ ln, ln = l.length := ⟨_, rfl⟩
          rw [← he] at c2
          rw [← hln] at c1 c2 hl1
          have HLN := Lib.hid hln
          have HE := Lib.hid he
          clear he hln hl2
          have t1 : ((ln : Int) != (ln : Int)) = false := by simp
          have C1 := Lib.hid c1
          have C2 := Lib.hid c2
          obtain ⟨wo, rfl⟩ : ∃ wo : World, wo = wr := ⟨_, rfl⟩
          go_wp2
          go_quiet (fail)
          go_wp2
          clear c1 c2
          go_loopw [6] (fun i wr => ∃ q : Nat, q ≤ ln ∧ i = .int .i64 q ∧ Hid (∀ j, j < q → l[j]? = m[j]?) ∧ Below wo.heap.size wo wr) (fun i _ => ln - (intOf i).toNat)
          case atStart => exact ⟨0, Nat.zero_le _, rfl, Lib.hid (fun j h => absurd h (Nat.not_lt_zero _)), bdrN (Below.refl _ _) _⟩
          case round =>
            obtain ⟨q, hq, rfl, hin, hB2⟩ := hrel
            have c1 := below_cell hB2 C1.out
            have c2 := below_cell hB2 C2.out
            by_cases hlt2 : q < ln
            · obtain ⟨b3, off3, x, rfl, h3, x1, x2⟩ := (R1.out.below hB2).atp (i := q) (by rw [← HLN.out]; exact hlt2)
              obtain ⟨b4, off4, y, rfl, h4, y1, y2⟩ := (R2.out.below hB2).atp (i := q) (by rw [← HE.out, ← HLN.out]; exact hlt2)
              have H3 := Lib.hid h3
              have H4 := Lib.hid h4
              clear h3 h4
              by_cases hxy : x = y
              · subst hxy
                have heq : ∀ w, Sem.run Try.prog (Op.equalIn 10000 54 (.agg #[.int .i64 x.1, .int .i64 x.2]) (.agg #[.int .i64 x.1, .int .i64 x.2])) w = .ok true w := fun w => by rw [eqP]; simp
                go_wp2
                go_quiet (fail)
                go_wp2
                go_roundw
                case rel =>
                  refine ⟨q + 1, by omega, by go_num, Lib.hid (fun j hj => ?_), bdrN hB2 _⟩
                  by_cases e : j = q
                  · subst e; rw [H3.out, H4.out]
                  · exact hin.out j (by omega)
                case measure => simp [intOf]; omega
              · have heq : ∀ w, Sem.run Try.prog (Op.equalIn 10000 54 (.agg #[.int .i64 x.1, .int .i64 x.2]) (.agg #[.int .i64 y.1, .int .i64 y.2])) w = .ok false w := fun w => by
                  rw [eqP]
                  congr 1
                  cases e1 : (x.1 == y.1 && x.2 == y.2) with
                  | false => rfl
                  | true =>
                    simp only [Bool.and_eq_true, beq_iff_eq] at e1
                    exact absurd (Prod.ext e1.1 e1.2) hxy
                have HXY := Lib.hid hxy
                clear hxy
                go_wp2
                go_quiet (fail)
                go_wp2
                go_ret
                refine ⟨ret_bool ?_, bdrN (bthen hB hB2) _⟩
                rw [← HR.out]
                refine (decide_eq_false ?_).symm
                rintro rfl
                have : l = m := Option.some.inj (H1.out.symm.trans H2.out)
                subst this
                exact HXY.out (Option.some.inj (H3.out.symm.trans H4.out))
            · obtain rfl : q = ln := by omega
              go_wp2
              go_roundw
              case rel =>
                refine ⟨k + 1, by omega, by go_num, Lib.hid (fun j hj => ?_), bthen hB hB2⟩
                by_cases e : j = k
                · subst e
                  rw [H1.out, H2.out, (eqL_cons HE.out).1 (by rw [← HLN.out]; exact hin.out)]
                · exact hall.out j (by omega)
              case measure => simp [intOf]; omega
        · have t1 : ((l.length : Int) != (m.length : Int)) = true := by simp; omega
          have HE := Lib.hid he
          clear he
          go_wp2
          go_quiet (fail)
          go_wp2
          go_ret
          refine ⟨ret_bool ?_, bdrN hB _⟩
          rw [← HR.out]
          refine (decide_eq_false ?_).symm
          rintro rfl
          exact HE.out (by rw [Option.some.inj (H1.out.symm.trans H2.out)])
      · obtain rfl : k = xn := by omega
        go_wp2
        go_ret
        refine ⟨ret_bool ?_, hB⟩
        rw [← HR.out]
        exact (decide_eq_true ((eqL_cons (by rw [HXN.out, HYN.out])).1 (by rw [HXN.out]; exact hall.out))).symm
  · have t1 : ((xn : Int) != (yn : Int)) = true := by simp; omega
    go_enter Try.func33, Try.ntmps33
    go_wp2
    go_ret
    refine ⟨ret_bool ?_, Below.refl _ _⟩
    rw [← HR.out]
    refine (decide_eq_false ?_).symm
    rintro rfl
    exact hne (HXN.out.symm.trans HYN.out)

def fewB (m : Mk) : Bool := (decide (m.os.length ≤ 6) || (decide (12 < m.os.length) && decide (m.os.length ≤ 20))) && decide (m.ks.length ≤ 30)
set_option maxHeartbeats 1000000 in
set_option maxRecDepth 100000 in
theorem l_few (m : Mk) (mv : Value) (w : World) (hm : MkRd w m mv) :
    Calls Try.prog 14 #[mv] w fun e w' => e = .returned (.bool (fewB m)) ∧ Below w.heap.size w w' := by
  obtain ⟨ka, kc, oa, oc, rfl, _, _, hk, ho⟩ := hm
  by_cases h4 : m.ks.length ≤ 30 <;> by_cases h1 : m.os.length ≤ 6 <;> by_cases h2 : 12 < m.os.length <;> by_cases h3 : m.os.length ≤ 20
  all_goals first
    | (exfalso; omega)
    | (go_enter Try.func14, Try.ntmps14
       go_wp2
       go_ret
       exact ⟨ret_bool (by simp [fewB, h1, h2, h3, h4] <;> omega), bal (Below.refl _ _) _⟩)
end Go.Proofs.Ytjdldmecjhddnaa
