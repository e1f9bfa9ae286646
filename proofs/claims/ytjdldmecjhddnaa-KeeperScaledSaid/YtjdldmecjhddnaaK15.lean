/- The contracts of keeper.Known. -/
import Derived.Test.YtjdldmecjhddnaaK14
import Derived.Test.YtjdldmecjhddnaaKPure4
import Derived.Test.YtjdldmecjhddnaaKRegion
namespace Go.Proofs.Ytjdldmecjhddnaa
open Go.RowKit
set_option linter.unusedVariables false
set_option linter.unusedSimpArgs false

/-- What lies in memory while spans are reckoned with: the market's box, the result's cells. -/
structure KnB (W : World) (B : Nat) (c0 c1 c2 : Value) : Prop where
  m0 : W.cell? ⟨B, 0, none⟩ = some c0
  m1 : W.cell? ⟨B, 1, none⟩ = some c1
  m2 : W.cell? ⟨B, 2, none⟩ = some c2
  r0 : W.cell? ⟨B + 1, 0, none⟩ = some (.int .i64 0)
  r1 : W.cell? ⟨B + 1, 1, none⟩ = some (.int .i64 0)
  z0 : W.frozen? ⟨B + 1, 0, none⟩ = false
  z1 : W.frozen? ⟨B + 1, 1, none⟩ = false
theorem KnB.below {W W' : World} {B : Nat} {c0 c1 c2 : Value} (h : KnB W B c0 c1 c2) (hb : Below W.heap.size W W') : KnB W' B c0 c1 c2 :=
  have hz : ∀ i, W.frozen? ⟨B + 1, i, none⟩ = false → W'.frozen? ⟨B + 1, i, none⟩ = false := fun i hi => (hb.frozen (p := ⟨B + 1, i, none⟩) (World.block_lt_of_cell? W ⟨B + 1, 0, none⟩ h.r0)).trans hi
  ⟨below_cell hb h.m0, below_cell hb h.m1, below_cell hb h.m2, below_cell hb h.r0, below_cell hb h.r1, hz _ h.z0, hz _ h.z1⟩
theorem KnB.set {W : World} {B : Nat} {c0 c1 c2 : Value} (h : KnB W B c0 c1 c2) {p : Addr} (v : Value) (hp : p.block ≠ B) (hp1 : p.block ≠ B + 1) : KnB (W.setCell p v) B c0 c1 c2 := by
  have far : ∀ n j u, p.block ≠ n → W.cell? ⟨n, j, none⟩ = some u → (W.setCell p v).cell? ⟨n, j, none⟩ = some u := fun n j u hn hv => by
    rw [World.cell?_setCell_other _ _ _ _ (by intro e; subst e; exact hn rfl)]; exact hv
  exact ⟨far _ _ _ hp h.m0, far _ _ _ hp h.m1, far _ _ _ hp h.m2, far _ _ _ hp1 h.r0, far _ _ _ hp1 h.r1, by simp [h.z0], by simp [h.z1]⟩
theorem span_put {W : World} {B : Nat} {u0 u1 : Value} (h0 : W.cell? ⟨B, 0, none⟩ = some u0) (h1 : W.cell? ⟨B, 1, none⟩ = some u1) (x y : Value) :
    ((W.setCell ⟨B, 0, none⟩ x).setCell ⟨B, 1, none⟩ y).cell? ⟨B, 0, none⟩ = some x ∧ ((W.setCell ⟨B, 0, none⟩ x).setCell ⟨B, 1, none⟩ y).cell? ⟨B, 1, none⟩ = some y := by
  have e : ∀ (X : World) (v u : Value), X.cell? ⟨B, 1, none⟩ = some v → (X.setCell ⟨B, 0, none⟩ u).cell? ⟨B, 1, none⟩ = some v := fun X v u hv => by
    rw [World.cell?_setCell_other _ _ _ _ (by intro e; injection e with _ e; omega)]; exact hv
  refine ⟨?_, World.cell?_setCell_same _ _ _ (e _ _ _ h1)⟩
  rw [World.cell?_setCell_other _ _ _ _ (by intro e; injection e with _ e; omega)]
  exact World.cell?_setCell_same _ _ _ h0
theorem kt0_of {k : Nat} (a b : Nat) (ha : a < k) : dg (fun _ _ => 1099511627776) k a b = kt0 a b := by
  unfold dg kt0
  by_cases e : a = b
  · rw [if_pos ⟨e, ha⟩, if_pos e]
  · rw [if_neg (fun h => e h.1), if_neg e]
/-- By how much each clock can be more than each other one: the table's x, y: x's less y's. -/
def knT (m : Mk) (l : List Int) (kn sh : List (Int × Int)) : Nat → Nat → Int := kfw m.n.toNat (kIn ((comps m l).zip (kn ++ sh))) m.n.toNat
def knownF (m : Mk) (l : List Int) (a b : Int) (kn sh : List (Int × Int)) : (Int × Int) × Bool × Int :=
  if askE m l [a, b] [] ≠ 0 then ((0, 0), false, askE m l [a, b] []) else
  if (tellsB m.ks kn && tellsB (sel m.os l) sh) = false then ((0, 0), false, 1) else
  if clash m.n.toNat (knT m l kn sh) = true then ((0, 0), false, 31) else
  if 1099511627776 ≤ knT m l kn sh a.toNat b.toNat then ((0, 0), false, 0) else
  ((wrap64 (-(knT m l kn sh a.toNat b.toNat)), knT m l kn sh b.toNat a.toNat), true, 0)
theorem known_rel {w W : World} {g n s t : Nat} {f c : Nat → Nat} {D : Nat → Nat → Int} {qa : Option Addr} {C : List Off} {oC oW lo hi x1 x2 : Int} {c0 c1 c2 : Value} (hT : TabF W (w.heap.size + 2) g f c n D) (hs : s < n) (ht : t < n) (hKB : KnB W w.heap.size c0 c1 c2)
    (hrq : RdO W qa C) (HLQ : ∀ ad, qa = some ad → ∀ p, p = g ∨ (∃ a, a < n ∧ p = f a) → ad.block ≠ p) (hB : Below w.heap.size w W) (h1 : x1 = mn (D t s) hi) (h2 : x2 = mn (D s t) (-lo)) :
    TabF ((W.drew.setCell ⟨f t, s, none⟩ (.int .i64 x1)).setCell ⟨f s, t, none⟩ (.int .i64 x2)) (w.heap.size + 2) g f c n (kstep D (⟨s, t, oC, oW⟩, (lo, hi))) ∧
    KnB ((W.drew.setCell ⟨f t, s, none⟩ (.int .i64 x1)).setCell ⟨f s, t, none⟩ (.int .i64 x2)) w.heap.size c0 c1 c2 ∧ RdO ((W.drew.setCell ⟨f t, s, none⟩ (.int .i64 x1)).setCell ⟨f s, t, none⟩ (.int .i64 x2)) qa C ∧
    Below w.heap.size w ((W.drew.setCell ⟨f t, s, none⟩ (.int .i64 x1)).setCell ⟨f s, t, none⟩ (.int .i64 x2)) := by
  have h0 : Below W.heap.size W W.drew := (Below.refl _ _).drew
  have hfs := (hT.hf s hs).1
  have hft := (hT.hf t ht).1
  subst h1 h2
  refine ⟨((hT.below h0).set ht hs _).set hs ht _, ((hKB.below h0).set _ ?_ ?_).set _ ?_ ?_, ((hrq.below h0).setOther _ (fun ad e => HLQ ad e _ (.inr ⟨t, ht, rfl⟩))).setOther _ (fun ad e => HLQ ad e _ (.inr ⟨s, hs, rfl⟩)), (hB.drew.setCell ?_ _).setCell ?_ _⟩
  · show f t ≠ _; omega
  · show f t ≠ _; omega
  · show f s ≠ _; omega
  · show f s ≠ _; omega
  · show w.heap.size ≤ f t; omega
  · show w.heap.size ≤ f s; omega
theorem kfw_rel {w W : World} {g n a1 b1 c1 : Nat} {f c : Nat → Nat} {E2 E3 : Nat → Nat → Int} {c0 c1' c2 : Value} (hE : E3 = rlxKB E2 c1 a1 b1) (hT : TabF W (w.heap.size + 2) g f c n E3) (hKB : KnB W w.heap.size c0 c1' c2) (hB : Below w.heap.size w W) (ha : a1 < n) (hb : b1 < n)
    (g1 : E3 a1 c1 < 1099511627776) (g2 : E3 c1 b1 < 1099511627776) :
    TabF (W.drew.setCell ⟨f a1, b1, none⟩ (.int .i64 (mn (E3 a1 b1) (wrap64 (E3 a1 c1 + E3 c1 b1))))) (w.heap.size + 2) g f c n (rlxKB E2 c1 a1 (b1 + 1)) ∧
    KnB (W.drew.setCell ⟨f a1, b1, none⟩ (.int .i64 (mn (E3 a1 b1) (wrap64 (E3 a1 c1 + E3 c1 b1))))) w.heap.size c0 c1' c2 ∧ Below w.heap.size w (W.drew.setCell ⟨f a1, b1, none⟩ (.int .i64 (mn (E3 a1 b1) (wrap64 (E3 a1 c1 + E3 c1 b1))))) := by
  have h0 : Below W.heap.size W W.drew := (Below.refl _ _).drew
  have hfa := (hT.hf a1 ha).1
  refine ⟨?_, (hKB.below h0).set _ (by show f a1 ≠ _; omega) (by show f a1 ≠ _; omega), hB.drew.setCell (by show w.heap.size ≤ f a1; omega) _⟩
  have e : rlxKB E2 c1 a1 (b1 + 1) = upd E3 a1 b1 (mn (E3 a1 b1) (wrap64 (E3 a1 c1 + E3 c1 b1))) := by
    rw [rlxKB, ← hE, rlxK, if_pos ⟨g1, g2⟩]
  rw [e]
  exact (hT.below h0).set ha hb _
theorem tells_len {l : List Off} {x : List (Int × Int)} (h : tellsB l x = true) : l.length = x.length := by
  unfold tellsB at h; rw [Bool.and_eq_true] at h; exact of_decide_eq_true h.1
theorem tells_mem {l : List Off} {x : List (Int × Int)} {i : Nat} {s : Int × Int} {o : Off} (h : tellsB l x = true) (hs : x[i]? = some s) (ho : l[i]? = some o) : -1073741824 ≤ s.1 ∧ s.1 ≤ 1073741824 ∧ s.2 = s.1 + o.W := by
  unfold tellsB at h; rw [Bool.and_eq_true] at h
  have hi : i < x.length := by
    rcases Nat.lt_or_ge i x.length with h' | h'
    · exact h'
    · rw [List.getElem?_eq_none h'] at hs; cases hs
  have := List.all_eq_true.1 h.2 i (List.mem_range.2 hi)
  rw [tells_at hs ho] at this
  simp only [Bool.and_eq_true, decide_eq_true_eq] at this
  exact ⟨this.1.1, this.1.2, this.2⟩
theorem sel_at {os : List Off} {l : List Int} {k : Nat} {x : Int} (h : l[k]? = some x) : sel os (l.take (k + 1)) = sel os (l.take k) ++ [os.getD x.toNat default] := by rw [take_snoc h, sel_snoc]

set_option maxHeartbeats 4000000 in
set_option maxRecDepth 100000 in
theorem k_Known (m : Mk) (mv : Value) (l : List Int) (la : Option Addr) (lc : Nat) (a b : Int) (kn sh : List (Int × Int)) (kna sha : Option Addr) (knn shn knc shc : Nat) (w : World) (hm : MkRd w m mv) (hl : RdI w la l) (hll : l.length ≤ 140737488355328) (hkn : RdP w kna kn) (hknl : kn.length = knn) (hknn : knn ≤ 140737488355328) (hsh : RdP w sha sh) (hshl : sh.length = shn) (hshn : shn ≤ 140737488355328) :
    Calls Try.prog 59 #[mv, .slice la l.length lc, .int .i64 a, .int .i64 b, .slice kna knn knc, .slice sha shn shc] w fun e w' => e = .returned (.tuple #[.agg #[.int .i64 (knownF m l a b kn sh).1.1, .int .i64 (knownF m l a b kn sh).1.2], .bool (knownF m l a b kn sh).2.1, .int .i64 (knownF m l a b kn sh).2.2]) ∧ Below w.heap.size w w' := by
  have HM := Lib.hid hm
  obtain ⟨ka, kc, oa, oc, rfl, hkR, hoR, hkl, hol⟩ := hm
  have hB0 : Below w.heap.size w (((w.alloc (.cells #[.int .i64 m.n, .slice ka m.ks.length kc, .slice oa m.os.length oc] 24)).alloc (.cells #[.int .i64 0, .int .i64 0] 82)).alloc (.cells #[.int .i64 a, .int .i64 b] 3)) := bal (bal (bal (Below.refl _ _) _) _) _
  have hcalls := Lib.hid (k_asked m _ l [a, b] [] la (some ⟨w.heap.size + 1 + 1, 0, none⟩) none lc 2 0 _ (HM.out.below hB0) (hl.below hB0) (by simpa using rdI_new ((w.alloc (.cells #[.int .i64 m.n, .slice ka m.ks.length kc, .slice oa m.os.length oc] 24)).alloc (.cells #[.int .i64 0, .int .i64 0] 82)) [a, b] 3 : RdI _ (some ⟨w.heap.size + 1 + 1, 0, none⟩) [a, b]) Rd.nil hll (by simp) (by simp))
  have HM0 := Lib.hid (cal (cal (show (w.alloc (.cells #[.int .i64 m.n, .slice ka m.ks.length kc, .slice oa m.os.length oc] 24)).cell? ⟨w.heap.size, 0, none⟩ = some (.int .i64 m.n) from by simp) (.cells #[.int .i64 0, .int .i64 0] 82)) (.cells #[.int .i64 a, .int .i64 b] 3))
  have HM1 := Lib.hid (cal (cal (show (w.alloc (.cells #[.int .i64 m.n, .slice ka m.ks.length kc, .slice oa m.os.length oc] 24)).cell? ⟨w.heap.size, 1, none⟩ = some (.slice ka m.ks.length kc) from by simp) (.cells #[.int .i64 0, .int .i64 0] 82)) (.cells #[.int .i64 a, .int .i64 b] 3))
  have HM2 := Lib.hid (cal (cal (show (w.alloc (.cells #[.int .i64 m.n, .slice ka m.ks.length kc, .slice oa m.os.length oc] 24)).cell? ⟨w.heap.size, 2, none⟩ = some (.slice oa m.os.length oc) from by simp) (.cells #[.int .i64 0, .int .i64 0] 82)) (.cells #[.int .i64 a, .int .i64 b] 3))
  have HKB := Lib.hid (show KnB (((w.alloc (.cells #[.int .i64 m.n, .slice ka m.ks.length kc, .slice oa m.os.length oc] 24)).alloc (.cells #[.int .i64 0, .int .i64 0] 82)).alloc (.cells #[.int .i64 a, .int .i64 b] 3)) w.heap.size (.int .i64 m.n) (.slice ka m.ks.length kc) (.slice oa m.os.length oc) from ⟨HM0.out, HM1.out, HM2.out, (cal (show ((w.alloc (.cells #[.int .i64 m.n, .slice ka m.ks.length kc, .slice oa m.os.length oc] 24)).alloc (.cells #[.int .i64 0, .int .i64 0] 82)).cell? ⟨w.heap.size + 1, 0, none⟩ = some (.int .i64 0) from by simp) (.cells #[.int .i64 a, .int .i64 b] 3)), (cal (show ((w.alloc (.cells #[.int .i64 m.n, .slice ka m.ks.length kc, .slice oa m.os.length oc] 24)).alloc (.cells #[.int .i64 0, .int .i64 0] 82)).cell? ⟨w.heap.size + 1, 1, none⟩ = some (.int .i64 0) from by simp) (.cells #[.int .i64 a, .int .i64 b] 3)), by simp [go_sem], by simp [go_sem]⟩)
  clear HM0 HM1 HM2
  by_cases he : askE m l [a, b] [] ≠ 0
  · have HF := Lib.hid (show knownF m l a b kn sh = ((0, 0), false, askE m l [a, b] []) from if_pos he)
    have HN := Lib.hid (show (askE m l [a, b] [] != 0) = true from by rw [bne_iff_ne]; exact he)
    have hne := HN.out
    have HE := Lib.hid he
    clear he
    go_enter Try.func59, Try.ntmps59
    go_wp2_with fail
    refine hcalls.out.mono ?_
    rintro e w1 ⟨rfl, hb⟩
    have hB := bthen hB0 hb
    have hKB := HKB.out.below hb
    clear hcalls HKB hB0 hb
    obtain ⟨km0, km1, km2, kr0, kr1, kz0, kz1⟩ := id hKB
    go_wp2
    have hsp := span_put hKB.r0 hKB.r1 (.int .i64 0) (.int .i64 0)
    obtain ⟨sp0, sp1⟩ := hsp
    refine bodyPost_ret (v := .tuple #[.agg #[.int .i64 0, .int .i64 0], .bool false, .int .i64 (askE m l [a, b] [])]) (by simp [results, Try.results59, go_sem, sp0, sp1]) rfl ⟨by rw [HF.out], (hB.setCell (by show w.heap.size ≤ w.heap.size + 1; omega) _).setCell (by show w.heap.size ≤ w.heap.size + 1; omega) _⟩
  · have he0 : askE m l [a, b] [] = 0 := Decidable.of_not_not he
    have HE := Lib.hid he0
    clear he
    obtain ⟨hok, hright, hcl, _⟩ := ask_0 he0
    have HOK := Lib.hid hok
    have hpl := pow_len hok
    have hca := List.all_eq_true.1 hcl a (by simp)
    have hcb := List.all_eq_true.1 hcl b (by simp)
    simp only [okC, Bool.and_eq_true, decide_eq_true_eq] at hca hcb
    obtain ⟨a0, a1⟩ := hca
    obtain ⟨b0, b1⟩ := hcb
    clear hcl
    have h12 := (okM hok).o12
    have h24 := (okM hok).k24
    have hln := right_len hright h12
    have h8 := (okM hok).n8
    have h2 := (okM hok).n2
    have hrb : ∀ x ∈ l, 0 ≤ x ∧ x < m.os.length := right_bd hright
    have HRB := Lib.hid hrb
    have HRL := Lib.hid hl
    have HKR := Lib.hid hkR
    have HOR := Lib.hid hoR
    have HKN := Lib.hid hkn
    have HSH := Lib.hid hsh
    have HKNL := Lib.hid hknl
    have HSHL := Lib.hid hshl
    have hOK := okM hok
    have HW1 := Lib.hid (show ∀ o ∈ m.ks, 0 ≤ o.W ∧ o.W ≤ 1048576 from fun o ho => ⟨(isOff_iff (hOK.ks o ho)).w0, (isOff_iff (hOK.ks o ho)).w1⟩)
    have HW2 := Lib.hid (show ∀ o ∈ sel m.os l, 0 ≤ o.W ∧ o.W ≤ 1048576 from fun o ho => ⟨(isOff_iff (hOK.os o (sel_mem hrb o ho))).w0, (isOff_iff (hOK.os o (sel_mem hrb o ho))).w1⟩)
    have HALL := Lib.hid (show ∀ o ∈ comps m l, isOff o m.n 10000 = true from fun o ho => (List.mem_append.1 ho).elim (fun h => isOff_mono (hOK.ks o h) (by omega)) (fun h => hOK.os o (sel_mem hrb o h)))
    have HSL := Lib.hid (sel_len m.os l)
    obtain ⟨N, hN⟩ := Int.eq_ofNat_of_zero_le (show 0 ≤ m.n by omega)
    obtain ⟨x, rfl⟩ := Int.eq_ofNat_of_zero_le a0
    obtain ⟨y, rfl⟩ := Int.eq_ofNat_of_zero_le b0
    have hNN : m.n.toNat = N := by omega
    have HNN := Lib.hid hNN
    have HN := Lib.hid hN
    clear hrb hright hok hkR hoR hkn hsh hknl hshl hOK hNN hN
    go_enter Try.func59, Try.ntmps59
    go_wp2_with fail
    refine hcalls.out.mono ?_
    rintro e w1 ⟨rfl, hb⟩
    rw [HE.out]
    have hB := bthen hB0 hb
    have hKB := HKB.out.below hb
    rw [HN.out] at hKB a1 b1 h8 h2
    clear hcalls HKB hB0 hb
    obtain ⟨km0, km1, km2, kr0, kr1, kz0, kz1⟩ := id hKB
    go_wp2_with fail
    go_loopw [16, 41] (fun v i wr => ∃ k : Nat, k ≤ l.length ∧ i = .int .i64 k ∧ wr.ownsRow w1.heap.size 59 4 v (sel m.os (l.take k)).length ((sel m.os (l.take k)).flatMap encO) ∧ Below w1.heap.size w1 wr) (fun _ i _ => l.length - (intOf i).toNat)
    case atStart => exact ⟨0, Nat.zero_le _, rfl, World.ownsRow_nil _ _ _ _, Below.refl _ _⟩
    case round =>
      obtain ⟨k, hk1, rfl, hown, hBz⟩ := hrel
      have hBw := bthen hB hBz
      have hKBw := hKB.below hBz
      clear km0 km1 km2 kr0 kr1 kz0 kz1
      by_cases hlt : k < l.length
      · obtain ⟨b', off, z, rfl, hz, hc⟩ := (HRL.out.below hBw).ati hlt
        obtain ⟨z0, z1⟩ := HRB.out z (List.mem_of_getElem? hz)
        obtain ⟨q, rfl⟩ := Int.eq_ofNat_of_zero_le z0
        obtain ⟨b2, off2, o, rfl, hox, q0, q1, q2, q3⟩ := (HOR.out.below hBw).ato (i := q) (by omega)
        have hm2 := hKBw.m2
        have HX := Lib.hid (sel_at (os := m.os) hz)
        have HO := Lib.hid (getD_of (d := default) hox)
        have HLN := Lib.hid (show (sel m.os (l.take k)).length = k from by rw [sel_len, List.length_take, Nat.min_eq_left (by omega)])
        clear hz hox
        go_wp2_with (at_builtin; refine ap1 rfl _ _ 22 rfl w1.heap.size 59 (.agg #[.int .i64 0, .int .i64 0, .int .i64 0, .int .i64 0]) 4 32 info_off Try.underlying22 rfl (by decide) (by decide) _ _ _ rfl hown (encO o) rfl rfl rfl (by rw [HLN.out]; omega) hBz.size ?_; intro v' w2 hown2 hgr hat hnn)
        go_roundw
        case rel =>
          refine ⟨k + 1, by omega, by go_num, ?_, hBz.grown hgr hBz.size (fun j e => (hown.lt j e).1)⟩
          rw [HX.out, HO.out, List.flatMap_append, List.length_append]
          simpa [encO] using hown2
        case measure => simp [intOf]; omega
      · obtain rfl : k = l.length := by omega
        simp only [List.take_length] at hown
        obtain ⟨sa, sc, rfl, hrdS, hlbS⟩ := own_rdb (enc := encO) (k := 4) (fun _ => rfl) hown
        have hs1 := hBz.size
        have hub := Lib.hid (show ∀ ad, sa = some ad → ad.block < wr.heap.size from fun ad e => by subst e; exact (hown.lt ad.block rfl).2)
        clear hKB hBz hB hown hlt hk1 hlbS
        obtain ⟨SL, hSL⟩ : ∃ SL, SL = sel m.os l := ⟨_, rfl⟩
        have hSLn : SL.length ≤ 12 := by rw [hSL, HSL.out]; exact hln
        rw [← hSL] at hrdS
        simp only [← hSL]
        have HSLe := Lib.hid hSL
        have HW2' := Lib.hid (show ∀ o ∈ SL, 0 ≤ o.W ∧ o.W ≤ 1048576 from by rw [hSL]; exact HW2.out)
        have HC := Lib.hid (show comps m l = m.ks ++ SL from by rw [hSL]; rfl)
        have HRS := Lib.hid hrdS
        clear hSL hrdS
        have km1 := hKBw.m1
        cases ht1 : tellsB m.ks kn with
        | false =>
          have HF2 := Lib.hid (show knownF m l x y kn sh = ((0, 0), false, 1) from by unfold knownF; rw [if_neg (by rw [HE.out]; simp)]; rw [if_pos (by rw [ht1]; rfl)])
          have HT1 := Lib.hid ht1
          clear ht1
          go_wp2_with fail
          refine (k_tells m.ks kn ka kna m.ks.length knn kc knc _ (HKR.out.below hBw) (HKN.out.below hBw) rfl HKNL.out hkl hknn (fun o ho => HW1.out o ho)).mono ?_
          rintro e w2 ⟨rfl, hb2⟩
          rw [HT1.out]
          have hB2 := bthen hBw hb2
          have hKB2 := hKBw.below hb2
          obtain ⟨km0, km1', km2, kr0, kr1, kz0, kz1⟩ := id hKB2
          go_wp2
          have hsp := span_put hKB2.r0 hKB2.r1 (.int .i64 0) (.int .i64 0)
          obtain ⟨sp0, sp1⟩ := hsp
          refine bodyPost_ret (v := .tuple #[.agg #[.int .i64 0, .int .i64 0], .bool false, .int .i64 1]) (by simp [results, Try.results59, go_sem, sp0, sp1]) rfl ⟨by rw [HF2.out], (hB2.setCell (by show w.heap.size ≤ w.heap.size + 1; omega) _).setCell (by show w.heap.size ≤ w.heap.size + 1; omega) _⟩
        | true =>
          have HT1b := Lib.hid ht1
          have HT1 := Lib.hid ht1
          clear ht1
          go_wp2_with fail
          refine (k_tells m.ks kn ka kna m.ks.length knn kc knc _ (HKR.out.below hBw) (HKN.out.below hBw) rfl HKNL.out hkl hknn (fun o ho => HW1.out o ho)).mono ?_
          rintro e w2 ⟨rfl, hb2⟩
          rw [HT1.out]
          have hB2 := bthen hBw hb2
          have hKB2 := hKBw.below hb2
          have hrs2 := HRS.out.below hb2
          clear hBw hKBw km1
          cases ht2 : tellsB SL sh with
          | false =>
            have HF2 := Lib.hid (show knownF m l x y kn sh = ((0, 0), false, 1) from by unfold knownF; rw [if_neg (by rw [HE.out]; simp)]; rw [if_pos (by rw [← HSLe.out, ht2, HT1b.out]; rfl)])
            have HT2 := Lib.hid ht2
            clear ht2
            go_wp2_with fail
            refine (k_tells SL sh sa sha SL.length shn sc shc _ hrs2 (HSH.out.below hB2) rfl HSHL.out (by omega) hshn (fun o ho => HW2'.out o ho)).mono ?_
            rintro e w3 ⟨rfl, hb3⟩
            rw [HT2.out]
            have hB3 := bthen hB2 hb3
            have hKB3 := hKB2.below hb3
            clear hB2 hb3 hb2 hKB2
            obtain ⟨km0, km1', km2, kr0, kr1, kz0, kz1⟩ := id hKB3
            go_wp2
            have hsp := span_put hKB3.r0 hKB3.r1 (.int .i64 0) (.int .i64 0)
            obtain ⟨sp0, sp1⟩ := hsp
            refine bodyPost_ret (v := .tuple #[.agg #[.int .i64 0, .int .i64 0], .bool false, .int .i64 1]) (by simp [results, Try.results59, go_sem, sp0, sp1]) rfl ⟨by rw [HF2.out], (hB3.setCell (by show w.heap.size ≤ w.heap.size + 1; omega) _).setCell (by show w.heap.size ≤ w.heap.size + 1; omega) _⟩
          | true =>
            have HF2 := Lib.hid (show knownF m l x y kn sh = if clash N (knT m l kn sh) = true then ((0, 0), false, 31) else if 1099511627776 ≤ knT m l kn sh x y then ((0, 0), false, 0) else ((wrap64 (-(knT m l kn sh x y)), knT m l kn sh y x), true, 0) from by unfold knownF; rw [if_neg (by rw [HE.out]; simp)]; rw [if_neg (by rw [← HSLe.out, ht2, HT1b.out]; simp), HNN.out]; rfl)
            have hlen1 := tells_len HT1b.out
            have hlen2 := tells_len ht2
            rw [HKNL.out] at hlen1
            rw [HSHL.out] at hlen2
            have hk24 : knn ≤ 24 := by rw [← hlen1]; exact h24
            have hs12 : shn ≤ 12 := by rw [← hlen2]; exact hSLn
            have HL1 := Lib.hid hlen1
            have HL2 := Lib.hid hlen2
            have HT2 := Lib.hid ht2
            clear ht2 hlen1 hlen2
            go_wp2_with fail
            refine (k_tells SL sh sa sha SL.length shn sc shc _ hrs2 (HSH.out.below hB2) rfl HSHL.out (by omega) hshn (fun o ho => HW2'.out o ho)).mono ?_
            rintro e w3 ⟨rfl, hb3⟩
            rw [HT2.out]
            have hB3 := bthen hB2 hb3
            have hKB3 := hKB2.below hb3
            have hrs3 := Lib.hid (hrs2.below hb3)
            have hsz23 := hb2.size
            have hsz33 := hb3.size
            clear hB2 hb3 hb2 hKB2 hrs2
            have km0 := hKB3.m0
            go_wp2_with fail
            refine (k_blank N (by omega) (by omega) _).mono ?_
            rintro e w4 ⟨v, rfl, ⟨g, cap, f, c, rfl, hT⟩, hb4⟩
            have hB4 := bthen hB3 hb4
            have hKB4 := hKB3.below hb4
            have hrs4 := Lib.hid (hrs3.out.below hb4)
            have hbl3 : w.heap.size + 1 < w3.heap.size := World.block_lt_of_cell? w3 _ hKB3.r0
            have HLB := Lib.hid (show ∀ ad, sa = some ad → ∀ p, p = g ∨ (∃ a, a < N ∧ p = f a) → ad.block ≠ p from by
              intro ad e p hp
              have h1 := hub.out ad e
              rcases hp with rfl | ⟨a, ha, rfl⟩
              · have := hT.hg; omega
              · have := (hT.hf a ha).1; omega)
            replace hT : TabF w4 (w.heap.size + 2) g f c N (fun _ _ => 1099511627776) := hT.mono (by omega)
            clear hb4 hB3 hKB3 hrs3 km0 hsz23 hsz33 hub hs1
            obtain ⟨km0, km1', km2, kr0, kr1, kz0, kz1⟩ := id hKB4
            go_wp2_with fail
            clear km0 km1' km2 kr0 kr1 kz0 kz1
            go_loopw [71] (fun i wr => ∃ k : Nat, k ≤ N ∧ i = .int .i64 k ∧ TabF wr (w.heap.size + 2) g f c N (dg (fun _ _ => 1099511627776) k) ∧ KnB wr w.heap.size (.int .i64 (N : Int)) (.slice ka m.ks.length kc) (.slice oa m.os.length oc) ∧ RdO wr sa SL ∧ Below w.heap.size w wr) (fun i _ => N - (intOf i).toNat)
            case atStart => exact ⟨0, Nat.zero_le _, rfl, hT.congr (fun a b _ _ => by simp [dg]), hKB4, hrs4.out, hB4⟩
            case round =>
              clear hT hKB4 hrs4 hB4
              obtain ⟨k, hk, rfl, hT, hKB, hrs, hB⟩ := hrel
              by_cases hlt : k < N
              · have h1 := hT.row k hlt
                have h2' := hT.cell k k hlt hlt
                have h3 := hT.free k k hlt hlt
                have hf := (hT.hf k hlt).1
                go_wp2
                go_roundw
                case rel =>
                  refine ⟨k + 1, by omega, by go_num, (hT.set hlt hlt 0).congr ?_, hKB.set _ (by show f k ≠ _; omega) (by show f k ≠ _; omega), hrs.setOther _ ?_, hB.setCell (by show w.heap.size ≤ f k; omega) _⟩
                  · intro a b ha hb
                    unfold upd dg
                    split <;> split <;> (try rfl) <;> (try omega)
                  · intro ad e; exact HLB.out ad e _ (.inr ⟨k, hlt, rfl⟩)
                case measure => simp [intOf]; omega
              · obtain rfl : k = N := by omega
                replace hT : TabF wr (w.heap.size + 2) g f c k kt0 := hT.congr (fun a b ha _ => kt0_of a b ha)
                obtain ⟨w5, rfl⟩ : ∃ w5 : World, w5 = wr := ⟨_, rfl⟩
                have hlt5 := hT.lt (by omega)
                have km1 := hKB.m1
                have hcb := Lib.hid (cnew (w := w5) (c := #[.slice ka m.ks.length kc, .slice sa SL.length sc]) (t := 22) (i := 0) rfl rfl)
                have hcb1 := Lib.hid (cnew (w := w5) (c := #[.slice ka m.ks.length kc, .slice sa SL.length sc]) (t := 22) (i := 1) rfl rfl)
                have hA5 := Lib.hid (bal (Below.refl w5.heap.size w5) (.cells #[.slice ka m.ks.length kc, .slice sa SL.length sc] 22))
                go_wp2_with fail
                refine (c_ConcatO m.ks SL w5.heap.size ka sa m.ks.length SL.length kc sc _ rfl rfl hcb.out hcb1.out ((HKR.out.below hB).below hA5.out) (hrs.below hA5.out) (by omega) (by omega)).mono ?_
                rintro e w6 ⟨v6, rfl, hown6, hb6⟩
                obtain ⟨qa, qc, rfl, hrq, hlbq⟩ := own_rdb (enc := encO) (k := 4) (fun _ => rfl) hown6
                have hb56 := bthen hA5.out hb6
                replace hT := hT.below hb56
                replace hKB := hKB.below hb56
                replace hB := bthen hB hb56
                obtain ⟨C, hC⟩ : ∃ C, C = m.ks ++ SL := ⟨_, rfl⟩
                rw [← hC] at hrq
                have hCl : C.length = knn + shn := by rw [hC, List.length_append, HL1.out, HL2.out]
                have HCL := Lib.hid hCl
                have hCb : C.length ≤ 36 := by rw [hC, List.length_append]; omega
                have HCA := Lib.hid (show ∀ o ∈ C, isOff o k 10000 = true from by intro o ho; rw [← HN.out]; exact HALL.out o (by rw [HC.out, ← hC]; exact ho))
                simp only [← hC]
                have HCe := Lib.hid hC
                have HLQ := Lib.hid (show ∀ ad, qa = some ad → ∀ p, p = g ∨ (∃ a, a < k ∧ p = f a) → ad.block ≠ p from by
                  intro ad e p hp
                  have h1 := hlbq ad e
                  simp at h1
                  rcases hp with rfl | ⟨a, ha, rfl⟩
                  · omega
                  · have := hlt5.2 a ha; omega)
                clear hC hCl hown6 hlbq hcb hcb1 hA5 hb6 hb56 hlt5 hrs km1 HLB
                go_wp2_with fail
                obtain ⟨Z, hZ⟩ : ∃ Z, Z = C.zip (kn ++ sh) := ⟨_, rfl⟩
                have HZ := Lib.hid hZ
                clear hZ
                obtain ⟨w7, rfl⟩ : ∃ w7 : World, w7 = w6 := ⟨_, rfl⟩
                go_loopw [87] (fun i wr => ∃ j : Nat, j ≤ C.length ∧ i = .int .i64 j ∧ TabF wr (w.heap.size + 2) g f c k (kIn (Z.take j)) ∧ KnB wr w.heap.size (.int .i64 (k : Int)) (.slice ka m.ks.length kc) (.slice oa m.os.length oc) ∧ RdO wr qa C ∧ Below w.heap.size w wr) (fun i _ => C.length - (intOf i).toNat)
                case atStart => exact ⟨0, Nat.zero_le _, rfl, hT, hKB, hrq, hB⟩
                case round =>
                  clear hT hKB hrq hB
                  obtain ⟨j, hj, rfl, hT, hKB, hrq, hB⟩ := hrel
                  by_cases hlt : j < C.length
                  · obtain ⟨b', off, o, rfl, hx, q0, q1, q2, q3⟩ := hrq.ato hlt
                    have hof := isOff_iff (HCA.out o (List.mem_of_getElem? hx))
                    have HX := Lib.hid hx
                    clear hx
                    obtain ⟨oA, oB, oC, oW⟩ := o
                    obtain ⟨a0', a1', b0', b1', hne, _, _, _, _⟩ := hof
                    simp only at q0 q1 q2 q3 a0' a1' b0' b1' hne
                    obtain ⟨s, rfl⟩ := Int.eq_ofNat_of_zero_le a0'
                    obtain ⟨t, rfl⟩ := Int.eq_ofNat_of_zero_le b0'
                    have hsn : s < k := by omega
                    have htn : t < k := by omega
                    have hst : s ≠ t := by omega
                    obtain ⟨hgl, hfl⟩ := hT.lt (by omega)
                    have hwr1 : b' < wr.heap.size := World.block_lt_of_cell? wr _ q0
                    have hcb := Lib.hid (cnew (w := wr.alloc (.cells #[.int .i64 s, .int .i64 t, .int .i64 oC, .int .i64 oW] 59)) (c := #[.slice kna knn knc, .slice sha shn shc]) (t := 85) (n := wr.heap.size + 1) (i := 0) (by simp) rfl)
                    have hcb1 := Lib.hid (cnew (w := wr.alloc (.cells #[.int .i64 s, .int .i64 t, .int .i64 oC, .int .i64 oW] 59)) (c := #[.slice kna knn knc, .slice sha shn shc]) (t := 85) (n := wr.heap.size + 1) (i := 1) (by simp) rfl)
                    have hA := Lib.hid (bal (bal (Below.refl wr.heap.size wr) (.cells #[.int .i64 s, .int .i64 t, .int .i64 oC, .int .i64 oW] 59)) (.cells #[.slice kna knn knc, .slice sha shn shc] 85))
                    have ho0 : ∀ i v, (#[Value.int .i64 s, .int .i64 t, .int .i64 oC, .int .i64 oW])[i]? = some v → ((wr.alloc (.cells #[.int .i64 s, .int .i64 t, .int .i64 oC, .int .i64 oW] 59)).alloc (.cells #[.slice kna knn knc, .slice sha shn shc] 85)).cell? ⟨wr.heap.size, i, none⟩ = some v := fun i v hv => cal (cnew rfl hv) _
                    have HO0 := Lib.hid ho0
                    clear ho0
                    go_wp2_with fail
                    refine (c_ConcatS kn sh (wr.heap.size + 1) kna sha knn shn knc shc _ HKNL.out HSHL.out hcb.out hcb1.out ((HKN.out.below hB).below hA.out) ((HSH.out.below hB).below hA.out) (by omega) (by omega)).mono ?_
                    rintro e w8 ⟨v8, rfl, hown8, hb8⟩
                    obtain ⟨va, vc, rfl, hrv⟩ := own_rd (enc := encP) (k := 2) (fun _ => rfl) hown8
                    have hb18 := bthen hA.out hb8
                    have p0 := below_cell hb8 (HO0.out 0 _ rfl)
                    have p1 := below_cell hb8 (HO0.out 1 _ rfl)
                    have hVL : (kn ++ sh).length = knn + shn := by rw [List.length_append, HKNL.out, HSHL.out]
                    obtain ⟨b9, off9, sp, rfl, hspx, u0, u1⟩ := hrv.atp (i := j) (by rw [hVL, ← HCL.out]; exact hlt)
                    obtain ⟨lo, hi⟩ := sp
                    simp only at u0 u1
                    have HZJ := Lib.hid (show kIn (Z.take (j + 1)) = kstep (kIn (Z.take j)) (⟨s, t, oC, oW⟩, (lo, hi)) from kIn_snoc (by rw [HZ.out]; exact zip_at HX.out hspx))
                    have hlob : -1073741824 ≤ lo ∧ lo ≤ 1073741824 := by
                      by_cases hjk : j < knn
                      · rw [List.getElem?_append_left (by rw [HKNL.out]; exact hjk)] at hspx
                        have hxk := HX.out
                        rw [HCe.out, List.getElem?_append_left (by rw [HL1.out]; exact hjk)] at hxk
                        have := tells_mem HT1b.out hspx hxk
                        exact ⟨this.1, this.2.1⟩
                      · rw [List.getElem?_append_right (by rw [HKNL.out]; omega)] at hspx
                        have hxk := HX.out
                        rw [HCe.out, List.getElem?_append_right (by rw [HL1.out]; omega)] at hxk
                        rw [HKNL.out] at hspx
                        rw [HL1.out] at hxk
                        have := tells_mem HT2.out hspx hxk
                        exact ⟨this.1, this.2.1⟩
                    have hrq8 := hrq.below hb18
                    have hT8 := hT.below hb18
                    have hKB8 := hKB.below hb18
                    have hB8 := bthen hB hb18
                    have hs8 : wr.heap.size < w8.heap.size := World.block_lt_of_cell? w8 _ p0
                    have hs9 : b9 < w8.heap.size := World.block_lt_of_cell? w8 _ u0
                    have hVLH := Lib.hid hVL
                    have hjv : j < kn.length + sh.length := by rw [HKNL.out, HSHL.out, ← HCL.out]; exact hlt
                    clear hrq hT hKB hB hb18 hb8 hA hcb hcb1 HO0 hown8 hspx hVL q0 q1 q2 q3 hrv
                    go_wp2_with fail
                    obtain ⟨W, hW⟩ : ∃ W, W = w8.alloc (.cells #[.int .i64 lo, .int .i64 hi] 82) := ⟨_, rfl⟩
                    have hAW : Below w8.heap.size w8 W := by rw [hW]; exact bal (Below.refl _ _) _
                    have v0 : W.cell? ⟨w8.heap.size, 0, none⟩ = some (.int .i64 lo) := by rw [hW]; exact cnew rfl rfl
                    have v1 : W.cell? ⟨w8.heap.size, 1, none⟩ = some (.int .i64 hi) := by rw [hW]; exact cnew rfl rfl
                    rw [← hW]
                    replace p0 := below_cell hAW p0
                    replace p1 := below_cell hAW p1
                    replace hT8 := hT8.below hAW
                    replace hrq8 := hrq8.below hAW
                    replace hKB8 := hKB8.below hAW
                    replace hB8 := bthen hB8 hAW
                    clear hW hAW u0 u1 hwr1 hs9 hjv
                    have h1 := hT8.row s hsn
                    have h2 := hT8.row t htn
                    have h3 := hT8.cell t s htn hsn
                    have h4 := hT8.cell s t hsn htn
                    have h5 := hT8.free t s htn hsn
                    have h6 := hT8.free s t hsn htn
                    have hfs := hfl s hsn
                    have hft := hfl t htn
                    obtain ⟨D, hD⟩ : ∃ D, D = kIn (Z.take j) := ⟨_, rfl⟩
                    rw [← hD] at hT8 h3 h4 HZJ
                    have HD := Lib.hid hD
                    have e1 : ¬ f s = g := (hT8.hf s hsn).2
                    have e2 : ¬ f t = g := (hT8.hf t htn).2
                    have e3 : ¬ f s = wr.heap.size := by omega
                    have e4 : ¬ f t = wr.heap.size := by omega
                    have e5 : ¬ f s = f t := fun e => hst (hT8.inj _ _ hsn htn e)
                    have e6 : ¬ f s = w8.heap.size := by omega
                    have e7 : ¬ f t = w8.heap.size := by omega
                    have i1 : (0 : Int) ≤ (s : Int) := Int.natCast_nonneg _
                    have i2 : (0 : Int) ≤ (t : Int) := Int.natCast_nonneg _
                    clear hD hfl
                    have hs1 := Lib.hid (show (fun w' : World => w'.cell? ⟨wr.heap.size, 0, none⟩ = some (.int .i64 s) ∧ w'.cell? ⟨wr.heap.size, 1, none⟩ = some (.int .i64 t) ∧ w'.cell? ⟨w8.heap.size, 0, none⟩ = some (.int .i64 lo) ∧ w'.cell? ⟨w8.heap.size, 1, none⟩ = some (.int .i64 hi) ∧ w'.cell? ⟨g, s, none⟩ = some (.slice (some ⟨f s, 0, none⟩) k (c s)) ∧ w'.cell? ⟨g, t, none⟩ = some (.slice (some ⟨f t, 0, none⟩) k (c t)) ∧ w'.cell? ⟨f s, t, none⟩ = some (.int .i64 (D s t))) W.drew from ⟨cdw p0, cdw p1, cdw v0, cdw v1, cdw h1, cdw h2, cdw h4⟩)
                    have hs2 := Lib.hid (show (fun w' : World => w'.cell? ⟨f t, s, none⟩ = some (.int .i64 (D t s))) W.drew from cdw h3)
                    have hs3 := Lib.hid (show (fun w' : World => w'.cell? ⟨wr.heap.size, 0, none⟩ = some (.int .i64 s) ∧ w'.cell? ⟨wr.heap.size, 1, none⟩ = some (.int .i64 t) ∧ w'.cell? ⟨w8.heap.size, 0, none⟩ = some (.int .i64 lo) ∧ w'.cell? ⟨w8.heap.size, 1, none⟩ = some (.int .i64 hi) ∧ w'.cell? ⟨g, s, none⟩ = some (.slice (some ⟨f s, 0, none⟩) k (c s)) ∧ w'.cell? ⟨g, t, none⟩ = some (.slice (some ⟨f t, 0, none⟩) k (c t)) ∧ w'.cell? ⟨f s, t, none⟩ = some (.int .i64 (D s t))) (W.drew.setCell ⟨f t, s, none⟩ (.int .i64 (mn (D t s) hi))) from by
                      have far : ∀ (n i : Nat) (u : Value), f t ≠ n → W.cell? ⟨n, i, none⟩ = some u → (W.drew.setCell ⟨f t, s, none⟩ (.int .i64 (mn (D t s) hi))).cell? ⟨n, i, none⟩ = some u := fun n i u hn hu => by
                        rw [World.cell?_setCell_other _ _ _ _ (by intro e; injection e with e _; exact hn e)]; exact cdw hu
                      exact ⟨far _ _ _ e4 p0, far _ _ _ e4 p1, far _ _ _ e7 v0, far _ _ _ e7 v1, far _ _ _ e2 h1, far _ _ _ e2 h2, far _ _ _ (fun e => e5 e.symm) h4⟩)
                    have hngl : IntKind.i64.wrap (-lo) = -lo := by rw [IntKind.wrap_i64]; omega
                    go_wp2
                    refine till_region (T := Till2 [42] (fun w' : World => w'.cell? ⟨wr.heap.size, 0, none⟩ = some (.int .i64 s) ∧ w'.cell? ⟨wr.heap.size, 1, none⟩ = some (.int .i64 t) ∧ w'.cell? ⟨w8.heap.size, 0, none⟩ = some (.int .i64 lo) ∧ w'.cell? ⟨w8.heap.size, 1, none⟩ = some (.int .i64 hi) ∧ w'.cell? ⟨g, s, none⟩ = some (.slice (some ⟨f s, 0, none⟩) k (c s)) ∧ w'.cell? ⟨g, t, none⟩ = some (.slice (some ⟨f t, 0, none⟩) k (c t)) ∧ w'.cell? ⟨f s, t, none⟩ = some (.int .i64 (D s t))) [40] (fun w' : World => w'.cell? ⟨f t, s, none⟩ = some (.int .i64 (D t s)))) (by kernel_rfl) ⟨till_hold hs1.out, till_hold hs2.out⟩ (fun _ => ?_)
                    refine till_take1 (i := 0) (v := ?v0) rfl (by kernel_rfl) (by kernel_rfl) (by kernel_rfl) (by kernel_rfl) (by kernel_rfl) (by kernel_rfl) (by kernel_rfl) (fun _ _ _ h => h) (Or.inl ⟨by rfl, ?y0⟩) ⟨till_hold hs1.out, till_hold hs2.out⟩ (fun _ => ?r0)
                    case y0 => (intro wS hSw; (try dsimp only at hSw); go_split_ands; go_simp <;> with_reducible rfl)
                    (try simp only [Act.put, List.setIfInBounds_toArray, List.set_cons_zero, List.set_cons_succ])
                    refine till_take1 (i := 1) (v := ?v1) rfl (by kernel_rfl) (by kernel_rfl) (by kernel_rfl) (by kernel_rfl) (by kernel_rfl) (by kernel_rfl) (by kernel_rfl) (fun _ _ _ h => h) (Or.inl ⟨by rfl, ?y1⟩) ⟨till_hold hs1.out, till_hold hs2.out⟩ (fun _ => ?r1)
                    case y1 => (intro wS hSw; (try dsimp only at hSw); go_split_ands; go_simp <;> with_reducible rfl)
                    (try simp only [Act.put, List.setIfInBounds_toArray, List.set_cons_zero, List.set_cons_succ])
                    refine till_take1 (i := 2) (v := ?v2) rfl (by kernel_rfl) (by kernel_rfl) (by kernel_rfl) (by kernel_rfl) (by kernel_rfl) (by kernel_rfl) (by kernel_rfl) (fun _ _ _ h => h) (Or.inl ⟨by rfl, ?y2⟩) ⟨till_hold hs1.out, till_hold hs2.out⟩ (fun _ => ?r2)
                    case y2 => (intro wS hSw; (try dsimp only at hSw); go_split_ands; go_simp <;> with_reducible rfl)
                    (try simp only [Act.put, List.setIfInBounds_toArray, List.set_cons_zero, List.set_cons_succ])
                    refine till_take1 (i := 3) (v := ?v3) rfl (by kernel_rfl) (by kernel_rfl) (by kernel_rfl) (by kernel_rfl) (by kernel_rfl) (by kernel_rfl) (by kernel_rfl) (fun _ _ _ h => h) (Or.inl ⟨by rfl, ?y3⟩) ⟨till_hold hs1.out, till_hold hs2.out⟩ (fun _ => ?r3)
                    case y3 => (intro wS hSw; (try dsimp only at hSw); go_split_ands; go_simp <;> with_reducible rfl)
                    (try simp only [Act.put, List.setIfInBounds_toArray, List.set_cons_zero, List.set_cons_succ])
                    refine till_take1 (i := 4) (v := ?v4) rfl (by kernel_rfl) (by kernel_rfl) (by kernel_rfl) (by kernel_rfl) (by kernel_rfl) (by kernel_rfl) (by kernel_rfl) (fun _ _ _ h => h) (Or.inl ⟨by rfl, ?y4⟩) ⟨till_hold hs1.out, till_hold hs2.out⟩ (fun _ => ?r4)
                    case y4 => (intro wS hSw; (try dsimp only at hSw); go_split_ands; go_simp <;> with_reducible rfl)
                    (try simp only [Act.put, List.setIfInBounds_toArray, List.set_cons_zero, List.set_cons_succ])
                    refine till_take1 (i := 5) (v := ?v5) rfl (by kernel_rfl) (by kernel_rfl) (by kernel_rfl) (by kernel_rfl) (by kernel_rfl) (by kernel_rfl) (by kernel_rfl) (fun _ _ _ h => h) (Or.inl ⟨by rfl, ?y5⟩) ⟨till_hold hs1.out, till_hold hs2.out⟩ (fun _ => ?r5)
                    case y5 => (intro wS hSw; (try dsimp only at hSw); go_split_ands; go_simp <;> with_reducible rfl)
                    (try simp only [Act.put, List.setIfInBounds_toArray, List.set_cons_zero, List.set_cons_succ])
                    refine till_take1 (i := 6) (v := ?v6) rfl (by kernel_rfl) (by kernel_rfl) (by kernel_rfl) (by kernel_rfl) (by kernel_rfl) (by kernel_rfl) (by kernel_rfl) (fun _ _ _ h => h) (Or.inl ⟨by rfl, ?y6⟩) ⟨till_hold hs1.out, till_hold hs2.out⟩ (fun _ => ?r6)
                    case y6 => (intro wS hSw; (try dsimp only at hSw); go_split_ands; go_simp <;> with_reducible rfl)
                    (try simp only [Act.put, List.setIfInBounds_toArray, List.set_cons_zero, List.set_cons_succ])
                    refine till_take1 (i := 7) (v := ?v7) rfl (by kernel_rfl) (by kernel_rfl) (by kernel_rfl) (by kernel_rfl) (by kernel_rfl) (by kernel_rfl) (by kernel_rfl) (fun _ _ _ h => h) (Or.inl ⟨by rfl, ?y7⟩) ⟨till_hold hs1.out, till_hold hs2.out⟩ (fun _ => ?r7)
                    case y7 => (intro wS hSw; (try dsimp only at hSw); go_split_ands; go_simp <;> with_reducible rfl)
                    (try simp only [Act.put, List.setIfInBounds_toArray, List.set_cons_zero, List.set_cons_succ])
                    refine till_take1 (i := 8) (v := ?v8) rfl (by kernel_rfl) (by kernel_rfl) (by kernel_rfl) (by kernel_rfl) (by kernel_rfl) (by kernel_rfl) (by kernel_rfl) (fun _ _ _ h => h) (Or.inl ⟨by rfl, ?y8⟩) ⟨till_hold hs1.out, till_hold hs2.out⟩ (fun _ => ?r8)
                    case y8 => (intro wS hSw; (try dsimp only at hSw); go_split_ands; go_simp <;> with_reducible rfl)
                    (try simp only [Act.put, List.setIfInBounds_toArray, List.set_cons_zero, List.set_cons_succ])
                    refine till_take1 (i := 9) (v := ?v9) rfl (by kernel_rfl) (by kernel_rfl) (by kernel_rfl) (by kernel_rfl) (by kernel_rfl) (by kernel_rfl) (by kernel_rfl) (fun _ _ _ h => h) (Or.inl ⟨by rfl, ?y9⟩) ⟨till_hold hs1.out, till_hold hs2.out⟩ (fun _ => ?r9)
                    case y9 => (intro wS hSw; (try dsimp only at hSw); go_split_ands; go_simp <;> with_reducible rfl)
                    (try simp only [Act.put, List.setIfInBounds_toArray, List.set_cons_zero, List.set_cons_succ])
                    refine till_take1 (i := 10) (v := ?v10) rfl (by kernel_rfl) (by kernel_rfl) (by kernel_rfl) (by kernel_rfl) (by kernel_rfl) (by kernel_rfl) (by kernel_rfl) (fun _ _ _ h => h) (Or.inl ⟨by rfl, ?y10⟩) ⟨till_hold hs1.out, till_hold hs2.out⟩ (fun _ => ?r10)
                    case y10 => (intro wS hSw; (try dsimp only at hSw); go_split_ands; go_simp <;> with_reducible rfl)
                    (try simp only [Act.put, List.setIfInBounds_toArray, List.set_cons_zero, List.set_cons_succ])
                    refine till_take1 (i := 11) (v := ?v11) rfl (by kernel_rfl) (by kernel_rfl) (by kernel_rfl) (by kernel_rfl) (by kernel_rfl) (by kernel_rfl) (by kernel_rfl) (fun _ _ _ h => h) (Or.inl ⟨by rfl, ?y11⟩) ⟨till_hold hs1.out, till_hold hs2.out⟩ (fun _ => ?r11)
                    case y11 => (intro wS hSw; (try dsimp only at hSw); go_split_ands; go_simp <;> with_reducible rfl)
                    (try simp only [Act.put, List.setIfInBounds_toArray, List.set_cons_zero, List.set_cons_succ])
                    refine till_take1 (i := 12) (v := ?v12) rfl (by kernel_rfl) (by kernel_rfl) (by kernel_rfl) (by kernel_rfl) (by kernel_rfl) (by kernel_rfl) (by kernel_rfl) (fun _ _ _ h => h) (Or.inl ⟨by rfl, ?y12⟩) ⟨till_hold hs1.out, till_hold hs2.out⟩ (fun _ => ?r12)
                    case y12 => (intro wS hSw; (try dsimp only at hSw); go_split_ands; go_simp <;> with_reducible rfl)
                    (try simp only [Act.put, List.setIfInBounds_toArray, List.set_cons_zero, List.set_cons_succ])
                    refine till_take1 (i := 13) (v := ?v13) rfl (by kernel_rfl) (by kernel_rfl) (by kernel_rfl) (by kernel_rfl) (by kernel_rfl) (by kernel_rfl) (by kernel_rfl) (fun _ _ _ h => h) (Or.inl ⟨by rfl, ?y13⟩) ⟨till_hold hs1.out, till_hold hs2.out⟩ (fun _ => ?r13)
                    case y13 => (intro wS hSw; (try dsimp only at hSw); go_split_ands; go_simp <;> with_reducible rfl)
                    (try simp only [Act.put, List.setIfInBounds_toArray, List.set_cons_zero, List.set_cons_succ])
                    refine till_take1 (i := 14) (v := ?v14) rfl (by kernel_rfl) (by kernel_rfl) (by kernel_rfl) (by kernel_rfl) (by kernel_rfl) (by kernel_rfl) (by kernel_rfl) (fun _ _ _ h => h) (Or.inl ⟨by rfl, ?y14⟩) ⟨till_hold hs1.out, till_hold hs2.out⟩ (fun _ => ?r14)
                    case y14 => (intro wS hSw; (try dsimp only at hSw); go_split_ands; go_simp <;> with_reducible rfl)
                    (try simp only [Act.put, List.setIfInBounds_toArray, List.set_cons_zero, List.set_cons_succ])
                    refine till_take1 (i := 15) (v := ?v15) rfl (by kernel_rfl) (by kernel_rfl) (by kernel_rfl) (by kernel_rfl) (by kernel_rfl) (by kernel_rfl) (by kernel_rfl) (fun _ _ _ h => h) (Or.inl ⟨by rfl, ?y15⟩) ⟨till_hold hs1.out, till_hold hs2.out⟩ (fun _ => ?r15)
                    case y15 => (intro wS hSw; (try dsimp only at hSw); go_split_ands; go_simp <;> with_reducible rfl)
                    (try simp only [Act.put, List.setIfInBounds_toArray, List.set_cons_zero, List.set_cons_succ])
                    refine till_take1 (i := 16) (v := ?v16) rfl (by kernel_rfl) (by kernel_rfl) (by kernel_rfl) (by kernel_rfl) (by kernel_rfl) (by kernel_rfl) (by kernel_rfl) (fun _ _ _ h => h) (Or.inl ⟨by rfl, ?y16⟩) ⟨till_hold hs1.out, till_hold hs2.out⟩ (fun _ => ?r16)
                    case y16 => (intro wS hSw; (try dsimp only at hSw); go_split_ands; go_simp <;> with_reducible rfl)
                    (try simp only [Act.put, List.setIfInBounds_toArray, List.set_cons_zero, List.set_cons_succ])
                    refine till_take1 (i := 17) (v := ?v17) rfl (by kernel_rfl) (by kernel_rfl) (by kernel_rfl) (by kernel_rfl) (by kernel_rfl) (by kernel_rfl) (by kernel_rfl) (fun _ _ _ h => h) (Or.inl ⟨by rfl, ?y17⟩) ⟨till_hold hs1.out, till_hold hs2.out⟩ (fun _ => ?r17)
                    case y17 => (intro wS hSw; (try dsimp only at hSw); go_split_ands; go_simp <;> with_reducible rfl)
                    (try simp only [Act.put, List.setIfInBounds_toArray, List.set_cons_zero, List.set_cons_succ])
                    refine till_take1 (i := 18) (v := ?v18) rfl (by kernel_rfl) (by kernel_rfl) (by kernel_rfl) (by kernel_rfl) (by kernel_rfl) (by kernel_rfl) (by kernel_rfl) (fun _ _ _ h => h) (Or.inl ⟨by rfl, ?y18⟩) ⟨till_hold hs1.out, till_hold hs2.out⟩ (fun _ => ?r18)
                    case y18 => (intro wS hSw; (try dsimp only at hSw); go_split_ands; go_simp <;> with_reducible rfl)
                    (try simp only [Act.put, List.setIfInBounds_toArray, List.set_cons_zero, List.set_cons_succ])
                    refine till_take1 (i := 19) (v := ?v19) rfl (by kernel_rfl) (by kernel_rfl) (by kernel_rfl) (by kernel_rfl) (by kernel_rfl) (by kernel_rfl) (by kernel_rfl) (fun _ _ _ h => h) (Or.inl ⟨by rfl, ?y19⟩) ⟨till_hold hs1.out, till_hold hs2.out⟩ (fun _ => ?r19)
                    case y19 => (intro wS hSw; (try dsimp only at hSw); go_split_ands; go_simp <;> with_reducible rfl)
                    (try simp only [Act.put, List.setIfInBounds_toArray, List.set_cons_zero, List.set_cons_succ])
                    refine till_take1 (i := 20) (v := ?v20) rfl (by kernel_rfl) (by kernel_rfl) (by kernel_rfl) (by kernel_rfl) (by kernel_rfl) (by kernel_rfl) (by kernel_rfl) (fun _ _ _ h => h) (Or.inl ⟨by rfl, ?y20⟩) ⟨till_hold hs1.out, till_hold hs2.out⟩ (fun _ => ?r20)
                    case y20 => (intro wS hSw; (try dsimp only at hSw); go_split_ands; go_simp <;> with_reducible rfl)
                    (try simp only [Act.put, List.setIfInBounds_toArray, List.set_cons_zero, List.set_cons_succ])
                    refine till_take1 (i := 21) (v := ?v21) rfl (by kernel_rfl) (by kernel_rfl) (by kernel_rfl) (by kernel_rfl) (by kernel_rfl) (by kernel_rfl) (by kernel_rfl) (fun _ _ _ h => h) (Or.inl ⟨by rfl, ?y21⟩) ⟨till_hold hs1.out, till_hold hs2.out⟩ (fun _ => ?r21)
                    case y21 => (intro wS hSw; (try dsimp only at hSw); go_split_ands; go_simp <;> with_reducible rfl)
                    (try simp only [Act.put, List.setIfInBounds_toArray, List.set_cons_zero, List.set_cons_succ])
                    refine till_take2 (i := 22) (v := ?v22) rfl (by kernel_rfl) (by kernel_rfl) (by kernel_rfl) (by kernel_rfl) (by kernel_rfl) (by kernel_rfl) (by kernel_rfl) (fun _ _ _ h => h) (Or.inl ⟨by rfl, ?y22⟩) ⟨till_hold hs1.out, till_hold hs2.out⟩ (fun _ => ?r22)
                    case y22 => (intro wS hSw; (try dsimp only at hSw); go_split_ands; go_simp <;> with_reducible rfl)
                    (try simp only [Act.put, List.setIfInBounds_toArray, List.set_cons_zero, List.set_cons_succ])
                    refine till_take1 (i := 23) (v := ?v23) rfl (by kernel_rfl) (by kernel_rfl) (by kernel_rfl) (by kernel_rfl) (by kernel_rfl) (by kernel_rfl) (by kernel_rfl) (fun _ _ _ h => h) (Or.inl ⟨by rfl, ?y23⟩) ⟨till_hold hs1.out, till_hold hs2.out⟩ (fun _ => ?r23)
                    case y23 => (intro wS hSw; (try dsimp only at hSw); go_split_ands; go_simp <;> with_reducible rfl)
                    (try simp only [Act.put, List.setIfInBounds_toArray, List.set_cons_zero, List.set_cons_succ])
                    refine till_take1 (i := 24) (v := ?v24) rfl (by kernel_rfl) (by kernel_rfl) (by kernel_rfl) (by kernel_rfl) (by kernel_rfl) (by kernel_rfl) (by kernel_rfl) (fun _ _ _ h => h) (Or.inl ⟨by rfl, ?y24⟩) ⟨till_hold hs1.out, till_hold hs2.out⟩ (fun _ => ?r24)
                    case y24 => (intro wS hSw; (try dsimp only at hSw); go_split_ands; go_simp <;> with_reducible rfl)
                    (try simp only [Act.put, List.setIfInBounds_toArray, List.set_cons_zero, List.set_cons_succ])
                    refine till_take1 (i := 25) (v := ?v25) rfl (by kernel_rfl) (by kernel_rfl) (by kernel_rfl) (by kernel_rfl) (by kernel_rfl) (by kernel_rfl) (by kernel_rfl) (fun _ _ _ h => h) (Or.inl ⟨by rfl, ?y25⟩) ⟨till_hold hs1.out, till_hold hs2.out⟩ (fun _ => ?r25)
                    case y25 => (intro wS hSw; (try dsimp only at hSw); go_split_ands; go_simp <;> with_reducible rfl)
                    (try simp only [Act.put, List.setIfInBounds_toArray, List.set_cons_zero, List.set_cons_succ])
                    refine till_take1 (i := 26) (v := ?v26) rfl (by kernel_rfl) (by kernel_rfl) (by kernel_rfl) (by kernel_rfl) (by kernel_rfl) (by kernel_rfl) (by kernel_rfl) (fun _ _ _ h => h) (Or.inl ⟨by rfl, ?y26⟩) ⟨till_hold hs1.out, till_hold hs2.out⟩ (fun _ => ?r26)
                    case y26 => (intro wS hSw; (try dsimp only at hSw); go_split_ands; go_simp <;> with_reducible rfl)
                    (try simp only [Act.put, List.setIfInBounds_toArray, List.set_cons_zero, List.set_cons_succ])
                    refine till_take1 (i := 27) (v := ?v27) rfl (by kernel_rfl) (by kernel_rfl) (by kernel_rfl) (by kernel_rfl) (by kernel_rfl) (by kernel_rfl) (by kernel_rfl) (fun _ _ _ h => h) (Or.inl ⟨by rfl, ?y27⟩) ⟨till_hold hs1.out, till_hold hs2.out⟩ (fun _ => ?r27)
                    case y27 => (intro wS hSw; (try dsimp only at hSw); go_split_ands; go_simp <;> with_reducible rfl)
                    (try simp only [Act.put, List.setIfInBounds_toArray, List.set_cons_zero, List.set_cons_succ])
                    refine till_take1 (i := 28) (v := ?v28) rfl (by kernel_rfl) (by kernel_rfl) (by kernel_rfl) (by kernel_rfl) (by kernel_rfl) (by kernel_rfl) (by kernel_rfl) (fun _ _ _ h => h) (Or.inl ⟨by rfl, ?y28⟩) ⟨till_hold hs1.out, till_hold hs2.out⟩ (fun _ => ?r28)
                    case y28 => (intro wS hSw; (try dsimp only at hSw); go_split_ands; go_simp <;> with_reducible rfl)
                    (try simp only [Act.put, List.setIfInBounds_toArray, List.set_cons_zero, List.set_cons_succ])
                    refine till_take1 (i := 29) (v := ?v29) rfl (by kernel_rfl) (by kernel_rfl) (by kernel_rfl) (by kernel_rfl) (by kernel_rfl) (by kernel_rfl) (by kernel_rfl) (fun _ _ _ h => h) (Or.inl ⟨by rfl, ?y29⟩) ⟨till_hold hs1.out, till_hold hs2.out⟩ (fun _ => ?r29)
                    case y29 => (intro wS hSw; (try dsimp only at hSw); go_split_ands; go_simp <;> with_reducible rfl)
                    (try simp only [Act.put, List.setIfInBounds_toArray, List.set_cons_zero, List.set_cons_succ])
                    refine till_take1 (i := 30) (v := ?v30) rfl (by kernel_rfl) (by kernel_rfl) (by kernel_rfl) (by kernel_rfl) (by kernel_rfl) (by kernel_rfl) (by kernel_rfl) (fun _ _ _ h => h) (Or.inl ⟨by rfl, ?y30⟩) ⟨till_hold hs1.out, till_hold hs2.out⟩ (fun _ => ?r30)
                    case y30 => (intro wS hSw; (try dsimp only at hSw); go_split_ands; go_simp <;> with_reducible rfl)
                    (try simp only [Act.put, List.setIfInBounds_toArray, List.set_cons_zero, List.set_cons_succ])
                    refine till_take1 (i := 31) (v := ?v31) rfl (by kernel_rfl) (by kernel_rfl) (by kernel_rfl) (by kernel_rfl) (by kernel_rfl) (by kernel_rfl) (by kernel_rfl) (fun _ _ _ h => h) (Or.inl ⟨by rfl, ?y31⟩) ⟨till_hold hs1.out, till_hold hs2.out⟩ (fun _ => ?r31)
                    case y31 => (intro wS hSw; (try dsimp only at hSw); go_split_ands; go_simp <;> with_reducible rfl)
                    (try simp only [Act.put, List.setIfInBounds_toArray, List.set_cons_zero, List.set_cons_succ])
                    refine till_take1 (i := 32) (v := ?v32) rfl (by kernel_rfl) (by kernel_rfl) (by kernel_rfl) (by kernel_rfl) (by kernel_rfl) (by kernel_rfl) (by kernel_rfl) (fun _ _ _ h => h) (Or.inl ⟨by rfl, ?y32⟩) ⟨till_hold hs1.out, till_hold hs2.out⟩ (fun _ => ?r32)
                    case y32 => (intro wS hSw; (try dsimp only at hSw); go_split_ands; go_simp <;> with_reducible rfl)
                    (try simp only [Act.put, List.setIfInBounds_toArray, List.set_cons_zero, List.set_cons_succ])
                    refine till_take1 (i := 33) (v := ?v33) rfl (by kernel_rfl) (by kernel_rfl) (by kernel_rfl) (by kernel_rfl) (by kernel_rfl) (by kernel_rfl) (by kernel_rfl) (fun _ _ _ h => h) (Or.inl ⟨by rfl, ?y33⟩) ⟨till_hold hs1.out, till_hold hs2.out⟩ (fun _ => ?r33)
                    case y33 => (intro wS hSw; (try dsimp only at hSw); go_split_ands; go_simp <;> with_reducible rfl)
                    (try simp only [Act.put, List.setIfInBounds_toArray, List.set_cons_zero, List.set_cons_succ])
                    refine till_take1 (i := 34) (v := ?v34) rfl (by kernel_rfl) (by kernel_rfl) (by kernel_rfl) (by kernel_rfl) (by kernel_rfl) (by kernel_rfl) (by kernel_rfl) (fun _ _ _ h => h) (Or.inl ⟨by rfl, ?y34⟩) ⟨till_hold hs1.out, till_hold hs2.out⟩ (fun _ => ?r34)
                    case y34 => (intro wS hSw; (try dsimp only at hSw); go_split_ands; go_simp <;> with_reducible rfl)
                    (try simp only [Act.put, List.setIfInBounds_toArray, List.set_cons_zero, List.set_cons_succ])
                    refine till_take1 (i := 35) (v := ?v35) rfl (by kernel_rfl) (by kernel_rfl) (by kernel_rfl) (by kernel_rfl) (by kernel_rfl) (by kernel_rfl) (by kernel_rfl) (fun _ _ _ h => h) (Or.inl ⟨by rfl, ?y35⟩) ⟨till_hold hs1.out, till_hold hs2.out⟩ (fun _ => ?r35)
                    case y35 => (intro wS hSw; (try dsimp only at hSw); go_split_ands; go_simp <;> with_reducible rfl)
                    (try simp only [Act.put, List.setIfInBounds_toArray, List.set_cons_zero, List.set_cons_succ])
                    refine till_take1 (i := 36) (v := ?v36) rfl (by kernel_rfl) (by kernel_rfl) (by kernel_rfl) (by kernel_rfl) (by kernel_rfl) (by kernel_rfl) (by kernel_rfl) (fun _ _ _ h => h) (Or.inl ⟨by rfl, ?y36⟩) ⟨till_hold hs1.out, till_hold hs2.out⟩ (fun _ => ?r36)
                    case y36 => (intro wS hSw; (try dsimp only at hSw); go_split_ands; go_simp <;> with_reducible rfl)
                    (try simp only [Act.put, List.setIfInBounds_toArray, List.set_cons_zero, List.set_cons_succ])
                    refine till_take1 (i := 37) (v := ?v37) rfl (by kernel_rfl) (by kernel_rfl) (by kernel_rfl) (by kernel_rfl) (by kernel_rfl) (by kernel_rfl) (by kernel_rfl) (fun _ _ _ h => h) (Or.inl ⟨by rfl, ?y37⟩) ⟨till_hold hs1.out, till_hold hs2.out⟩ (fun _ => ?r37)
                    case y37 => (intro wS hSw; (try dsimp only at hSw); go_split_ands; go_simp <;> with_reducible rfl)
                    (try simp only [Act.put, List.setIfInBounds_toArray, List.set_cons_zero, List.set_cons_succ])
                    refine till_take1 (i := 38) (v := ?v38) rfl (by kernel_rfl) (by kernel_rfl) (by kernel_rfl) (by kernel_rfl) (by kernel_rfl) (by kernel_rfl) (by kernel_rfl) (fun _ _ _ h => h) (Or.inl ⟨by rfl, ?y38⟩) ⟨till_hold hs1.out, till_hold hs2.out⟩ (fun _ => ?r38)
                    case y38 => (intro wS hSw; (try dsimp only at hSw); go_split_ands; go_simp <;> with_reducible rfl)
                    (try simp only [Act.put, List.setIfInBounds_toArray, List.set_cons_zero, List.set_cons_succ])
                    refine till_take1 (i := 39) (v := ?v39) rfl (by kernel_rfl) (by kernel_rfl) (by kernel_rfl) (by kernel_rfl) (by kernel_rfl) (by kernel_rfl) (by kernel_rfl) (fun _ _ _ h => h) (Or.inl ⟨by rfl, ?y39⟩) ⟨till_hold hs1.out, till_hold hs2.out⟩ (fun _ => ?r39)
                    case y39 => (intro wS hSw; (try dsimp only at hSw); go_split_ands; go_simp <;> with_reducible rfl)
                    (try simp only [Act.put, List.setIfInBounds_toArray, List.set_cons_zero, List.set_cons_succ])
                    refine till_ready (i := 40) (o := _) (by kernel_rfl) rfl (fun K hK => ?_)
                    go_simp
                    refine hK.out _ _ ⟨till_hold (by exact hs3.out), till_gone (by kernel_rfl)⟩ ?_
                    clear hK K
                    (try simp only [Act.put, List.setIfInBounds_toArray, List.set_cons_zero, List.set_cons_succ])
                    refine till_take1 (i := 41) (v := ?v41) rfl (by kernel_rfl) (by kernel_rfl) (by kernel_rfl) (by kernel_rfl) (by kernel_rfl) (by kernel_rfl) (by kernel_rfl) (fun _ _ _ h => h) (Or.inl ⟨by rfl, ?y41⟩) ⟨till_hold (by exact hs3.out), till_gone (by kernel_rfl)⟩ (fun _ => ?r41)
                    case y41 => (intro wS hSw; (try dsimp only at hSw); go_split_ands; go_simp <;> with_reducible rfl)
                    (try simp only [Act.put, List.setIfInBounds_toArray, List.set_cons_zero, List.set_cons_succ])
                    refine till_ready (i := 42) (o := _) (by kernel_rfl) rfl (fun K hK => ?_)
                    go_simp
                    refine hK.out _ _ ⟨till_gone (by kernel_rfl), till_gone (by kernel_rfl)⟩ ?_
                    clear hK K
                    (try simp only [Act.put, List.setIfInBounds_toArray, List.set_cons_zero, List.set_cons_succ])
                    refine till_done (by kernel_rfl) ?_ _
                    go_wp2
                    go_roundw
                    case rel => exact ⟨j + 1, by omega, by go_num, by rw [HZJ.out]; exact known_rel hT8 hsn htn hKB8 hrq8 HLQ.out hB8 rfl rfl⟩
                    case measure => simp [intOf]; omega
                  · obtain rfl : j = C.length := by omega
                    have hZl : (Z.take C.length) = Z := by rw [List.take_of_length_le]; rw [HZ.out, List.length_zip]; omega
                    rw [hZl] at hT
                    have HTT := Lib.hid (show knT m l kn sh = kfw k (kIn Z) k from by unfold knT; rw [HNN.out, HC.out, ← HCe.out, ← HZ.out])
                    rw [HTT.out] at HF2
                    obtain ⟨E, hE⟩ : ∃ E, E = kIn Z := ⟨_, rfl⟩
                    rw [← hE] at hT HF2
                    clear hE hZl HTT HZ HCe HCL HCA HLQ hrq
                    obtain ⟨w9, rfl⟩ : ∃ w9 : World, w9 = wr := ⟨_, rfl⟩
                    have km0 := hKB.m0
                    go_wp2_with fail
                    clear km0
                    go_loopw [143] (fun i wr => ∃ cc : Nat, cc ≤ k ∧ i = .int .i64 cc ∧ TabF wr (w.heap.size + 2) g f c k (kfw k E cc) ∧ KnB wr w.heap.size (.int .i64 (k : Int)) (.slice ka m.ks.length kc) (.slice oa m.os.length oc) ∧ Below w.heap.size w wr) (fun i _ => k - (intOf i).toNat)
                    case atStart => exact ⟨0, Nat.zero_le _, rfl, hT, hKB, hB⟩
                    case round =>
                      clear hT hKB hB
                      obtain ⟨cc, hcc, rfl, hT, hKB, hB⟩ := hrel
                      have km0 := hKB.m0
                      by_cases hlt : cc < k
                      · obtain ⟨E1, hE1⟩ : ∃ E1, E1 = kfw k E cc := ⟨_, rfl⟩
                        rw [← hE1] at hT
                        have HE1 := Lib.hid hE1
                        clear hE1
                        obtain ⟨w10, rfl⟩ : ∃ w10 : World, w10 = wr := ⟨_, rfl⟩
                        go_wp2
                        clear km0
                        go_loopw [148] (fun i wr => ∃ aa : Nat, aa ≤ k ∧ i = .int .i64 aa ∧ TabF wr (w.heap.size + 2) g f c k (rlxKA k E1 cc aa) ∧ KnB wr w.heap.size (.int .i64 (k : Int)) (.slice ka m.ks.length kc) (.slice oa m.os.length oc) ∧ Below w.heap.size w wr) (fun i _ => k - (intOf i).toNat)
                        case atStart => exact ⟨0, Nat.zero_le _, rfl, hT, hKB, hB⟩
                        case round =>
                          clear hT hKB hB
                          obtain ⟨aa, haa, rfl, hT, hKB, hB⟩ := hrel
                          have km0 := hKB.m0
                          by_cases hlt2 : aa < k
                          · obtain ⟨E2, hE2⟩ : ∃ E2, E2 = rlxKA k E1 cc aa := ⟨_, rfl⟩
                            rw [← hE2] at hT
                            have HE2 := Lib.hid hE2
                            clear hE2
                            obtain ⟨w11, rfl⟩ : ∃ w11 : World, w11 = wr := ⟨_, rfl⟩
                            go_wp2
                            clear km0
                            go_loopw [153] (fun i wr => ∃ bb : Nat, bb ≤ k ∧ i = .int .i64 bb ∧ TabF wr (w.heap.size + 2) g f c k (rlxKB E2 cc aa bb) ∧ KnB wr w.heap.size (.int .i64 (k : Int)) (.slice ka m.ks.length kc) (.slice oa m.os.length oc) ∧ Below w.heap.size w wr) (fun i _ => k - (intOf i).toNat)
                            case atStart => exact ⟨0, Nat.zero_le _, rfl, hT, hKB, hB⟩
                            case round =>
                              clear hT hKB hB
                              obtain ⟨bb, hbb, rfl, hT, hKB, hB⟩ := hrel
                              have km0 := hKB.m0
                              by_cases hlt3 : bb < k
                              · obtain ⟨E3, hE3⟩ : ∃ E3, E3 = rlxKB E2 cc aa bb := ⟨_, rfl⟩
                                rw [← hE3] at hT
                                have HE3 := Lib.hid hE3
                                clear hE3 km0
                                have h1 := hT.row aa hlt2
                                have h2 := hT.row cc hlt
                                have h3 := hT.cell aa cc hlt2 hlt
                                have h4 := hT.cell cc bb hlt hlt3
                                have h5 := hT.cell aa bb hlt2 hlt3
                                have h6 := hT.free aa bb hlt2 hlt3
                                by_cases g1 : E3 aa cc < 1099511627776
                                · by_cases g2 : E3 cc bb < 1099511627776
                                  · have hwr := IntWalk.i64_left (E3 aa cc + E3 cc bb)
                                    have hs1 := Lib.hid (show (fun w' : World => w'.cell? ⟨g, aa, none⟩ = some (.slice (some ⟨f aa, 0, none⟩) k (c aa)) ∧ w'.cell? ⟨g, cc, none⟩ = some (.slice (some ⟨f cc, 0, none⟩) k (c cc)) ∧ w'.cell? ⟨f aa, bb, none⟩ = some (.int .i64 (E3 aa bb)) ∧ w'.cell? ⟨f aa, cc, none⟩ = some (.int .i64 (E3 aa cc)) ∧ w'.cell? ⟨f cc, bb, none⟩ = some (.int .i64 (E3 cc bb))) wr.drew from ⟨cdw h1, cdw h2, cdw h5, cdw h3, cdw h4⟩)
                                    have hs2 := Lib.hid trivial
                                    go_wp2
                                    refine till_region (T := Till2 [29] (fun w' : World => w'.cell? ⟨g, aa, none⟩ = some (.slice (some ⟨f aa, 0, none⟩) k (c aa)) ∧ w'.cell? ⟨g, cc, none⟩ = some (.slice (some ⟨f cc, 0, none⟩) k (c cc)) ∧ w'.cell? ⟨f aa, bb, none⟩ = some (.int .i64 (E3 aa bb)) ∧ w'.cell? ⟨f aa, cc, none⟩ = some (.int .i64 (E3 aa cc)) ∧ w'.cell? ⟨f cc, bb, none⟩ = some (.int .i64 (E3 cc bb))) [29] (fun _ : World => True)) (by kernel_rfl) ⟨till_hold hs1.out, till_hold hs2.out⟩ (fun _ => ?_)
                                    refine till_take1 (i := 0) (v := ?vb0) rfl (by kernel_rfl) (by kernel_rfl) (by kernel_rfl) (by kernel_rfl) (by kernel_rfl) (by kernel_rfl) (by kernel_rfl) (fun _ _ _ h => h) (Or.inl ⟨by rfl, ?yb0⟩) ⟨till_hold hs1.out, till_hold hs2.out⟩ (fun _ => ?rb0)
                                    case yb0 => (intro wS hSw; (try dsimp only at hSw); go_split_ands; go_simp <;> with_reducible rfl)
                                    (try simp only [Act.put, List.setIfInBounds_toArray, List.set_cons_zero, List.set_cons_succ])
                                    refine till_take1 (i := 1) (v := ?vb1) rfl (by kernel_rfl) (by kernel_rfl) (by kernel_rfl) (by kernel_rfl) (by kernel_rfl) (by kernel_rfl) (by kernel_rfl) (fun _ _ _ h => h) (Or.inl ⟨by rfl, ?yb1⟩) ⟨till_hold hs1.out, till_hold hs2.out⟩ (fun _ => ?rb1)
                                    case yb1 => (intro wS hSw; (try dsimp only at hSw); go_split_ands; go_simp <;> with_reducible rfl)
                                    (try simp only [Act.put, List.setIfInBounds_toArray, List.set_cons_zero, List.set_cons_succ])
                                    refine till_take1 (i := 2) (v := ?vb2) rfl (by kernel_rfl) (by kernel_rfl) (by kernel_rfl) (by kernel_rfl) (by kernel_rfl) (by kernel_rfl) (by kernel_rfl) (fun _ _ _ h => h) (Or.inl ⟨by rfl, ?yb2⟩) ⟨till_hold hs1.out, till_hold hs2.out⟩ (fun _ => ?rb2)
                                    case yb2 => (intro wS hSw; (try dsimp only at hSw); go_split_ands; go_simp <;> with_reducible rfl)
                                    (try simp only [Act.put, List.setIfInBounds_toArray, List.set_cons_zero, List.set_cons_succ])
                                    refine till_take1 (i := 3) (v := ?vb3) rfl (by kernel_rfl) (by kernel_rfl) (by kernel_rfl) (by kernel_rfl) (by kernel_rfl) (by kernel_rfl) (by kernel_rfl) (fun _ _ _ h => h) (Or.inl ⟨by rfl, ?yb3⟩) ⟨till_hold hs1.out, till_hold hs2.out⟩ (fun _ => ?rb3)
                                    case yb3 => (intro wS hSw; (try dsimp only at hSw); go_split_ands; go_simp <;> with_reducible rfl)
                                    (try simp only [Act.put, List.setIfInBounds_toArray, List.set_cons_zero, List.set_cons_succ])
                                    refine till_take1 (i := 4) (v := ?vb4) rfl (by kernel_rfl) (by kernel_rfl) (by kernel_rfl) (by kernel_rfl) (by kernel_rfl) (by kernel_rfl) (by kernel_rfl) (fun _ _ _ h => h) (Or.inl ⟨by rfl, ?yb4⟩) ⟨till_hold hs1.out, till_hold hs2.out⟩ (fun _ => ?rb4)
                                    case yb4 => (intro wS hSw; (try dsimp only at hSw); go_split_ands; go_simp <;> with_reducible rfl)
                                    (try simp only [Act.put, List.setIfInBounds_toArray, List.set_cons_zero, List.set_cons_succ])
                                    refine till_take1 (i := 5) (v := ?vb5) rfl (by kernel_rfl) (by kernel_rfl) (by kernel_rfl) (by kernel_rfl) (by kernel_rfl) (by kernel_rfl) (by kernel_rfl) (fun _ _ _ h => h) (Or.inl ⟨by rfl, ?yb5⟩) ⟨till_hold hs1.out, till_hold hs2.out⟩ (fun _ => ?rb5)
                                    case yb5 => (intro wS hSw; (try dsimp only at hSw); go_split_ands; go_simp <;> with_reducible rfl)
                                    (try simp only [Act.put, List.setIfInBounds_toArray, List.set_cons_zero, List.set_cons_succ])
                                    refine till_take1 (i := 6) (v := ?vb6) rfl (by kernel_rfl) (by kernel_rfl) (by kernel_rfl) (by kernel_rfl) (by kernel_rfl) (by kernel_rfl) (by kernel_rfl) (fun _ _ _ h => h) (Or.inl ⟨by rfl, ?yb6⟩) ⟨till_hold hs1.out, till_hold hs2.out⟩ (fun _ => ?rb6)
                                    case yb6 => (intro wS hSw; (try dsimp only at hSw); go_split_ands; go_simp <;> with_reducible rfl)
                                    (try simp only [Act.put, List.setIfInBounds_toArray, List.set_cons_zero, List.set_cons_succ])
                                    refine till_take1 (i := 7) (v := ?vb7) rfl (by kernel_rfl) (by kernel_rfl) (by kernel_rfl) (by kernel_rfl) (by kernel_rfl) (by kernel_rfl) (by kernel_rfl) (fun _ _ _ h => h) (Or.inl ⟨by rfl, ?yb7⟩) ⟨till_hold hs1.out, till_hold hs2.out⟩ (fun _ => ?rb7)
                                    case yb7 => (intro wS hSw; (try dsimp only at hSw); go_split_ands; go_simp <;> with_reducible rfl)
                                    (try simp only [Act.put, List.setIfInBounds_toArray, List.set_cons_zero, List.set_cons_succ])
                                    refine till_take1 (i := 8) (v := ?vb8) rfl (by kernel_rfl) (by kernel_rfl) (by kernel_rfl) (by kernel_rfl) (by kernel_rfl) (by kernel_rfl) (by kernel_rfl) (fun _ _ _ h => h) (Or.inl ⟨by rfl, ?yb8⟩) ⟨till_hold hs1.out, till_hold hs2.out⟩ (fun _ => ?rb8)
                                    case yb8 => (intro wS hSw; (try dsimp only at hSw); go_split_ands; go_simp <;> with_reducible rfl)
                                    (try simp only [Act.put, List.setIfInBounds_toArray, List.set_cons_zero, List.set_cons_succ])
                                    refine till_take1 (i := 9) (v := ?vb9) rfl (by kernel_rfl) (by kernel_rfl) (by kernel_rfl) (by kernel_rfl) (by kernel_rfl) (by kernel_rfl) (by kernel_rfl) (fun _ _ _ h => h) (Or.inl ⟨by rfl, ?yb9⟩) ⟨till_hold hs1.out, till_hold hs2.out⟩ (fun _ => ?rb9)
                                    case yb9 => (intro wS hSw; (try dsimp only at hSw); go_split_ands; go_simp <;> with_reducible rfl)
                                    (try simp only [Act.put, List.setIfInBounds_toArray, List.set_cons_zero, List.set_cons_succ])
                                    refine till_take1 (i := 10) (v := ?vb10) rfl (by kernel_rfl) (by kernel_rfl) (by kernel_rfl) (by kernel_rfl) (by kernel_rfl) (by kernel_rfl) (by kernel_rfl) (fun _ _ _ h => h) (Or.inl ⟨by rfl, ?yb10⟩) ⟨till_hold hs1.out, till_hold hs2.out⟩ (fun _ => ?rb10)
                                    case yb10 => (intro wS hSw; (try dsimp only at hSw); go_split_ands; go_simp <;> with_reducible rfl)
                                    (try simp only [Act.put, List.setIfInBounds_toArray, List.set_cons_zero, List.set_cons_succ])
                                    refine till_take1 (i := 11) (v := ?vb11) rfl (by kernel_rfl) (by kernel_rfl) (by kernel_rfl) (by kernel_rfl) (by kernel_rfl) (by kernel_rfl) (by kernel_rfl) (fun _ _ _ h => h) (Or.inl ⟨by rfl, ?yb11⟩) ⟨till_hold hs1.out, till_hold hs2.out⟩ (fun _ => ?rb11)
                                    case yb11 => (intro wS hSw; (try dsimp only at hSw); go_split_ands; go_simp <;> with_reducible rfl)
                                    (try simp only [Act.put, List.setIfInBounds_toArray, List.set_cons_zero, List.set_cons_succ])
                                    refine till_take1 (i := 12) (v := ?vb12) rfl (by kernel_rfl) (by kernel_rfl) (by kernel_rfl) (by kernel_rfl) (by kernel_rfl) (by kernel_rfl) (by kernel_rfl) (fun _ _ _ h => h) (Or.inl ⟨by rfl, ?yb12⟩) ⟨till_hold hs1.out, till_hold hs2.out⟩ (fun _ => ?rb12)
                                    case yb12 => (intro wS hSw; (try dsimp only at hSw); go_split_ands; go_simp <;> with_reducible rfl)
                                    (try simp only [Act.put, List.setIfInBounds_toArray, List.set_cons_zero, List.set_cons_succ])
                                    refine till_take1 (i := 13) (v := ?vb13) rfl (by kernel_rfl) (by kernel_rfl) (by kernel_rfl) (by kernel_rfl) (by kernel_rfl) (by kernel_rfl) (by kernel_rfl) (fun _ _ _ h => h) (Or.inl ⟨by rfl, ?yb13⟩) ⟨till_hold hs1.out, till_hold hs2.out⟩ (fun _ => ?rb13)
                                    case yb13 => (intro wS hSw; (try dsimp only at hSw); go_split_ands; go_simp <;> with_reducible rfl)
                                    (try simp only [Act.put, List.setIfInBounds_toArray, List.set_cons_zero, List.set_cons_succ])
                                    refine till_take1 (i := 14) (v := ?vb14) rfl (by kernel_rfl) (by kernel_rfl) (by kernel_rfl) (by kernel_rfl) (by kernel_rfl) (by kernel_rfl) (by kernel_rfl) (fun _ _ _ h => h) (Or.inl ⟨by rfl, ?yb14⟩) ⟨till_hold hs1.out, till_hold hs2.out⟩ (fun _ => ?rb14)
                                    case yb14 => (intro wS hSw; (try dsimp only at hSw); go_split_ands; go_simp <;> with_reducible rfl)
                                    (try simp only [Act.put, List.setIfInBounds_toArray, List.set_cons_zero, List.set_cons_succ])
                                    refine till_take1 (i := 15) (v := ?vb15) rfl (by kernel_rfl) (by kernel_rfl) (by kernel_rfl) (by kernel_rfl) (by kernel_rfl) (by kernel_rfl) (by kernel_rfl) (fun _ _ _ h => h) (Or.inl ⟨by rfl, ?yb15⟩) ⟨till_hold hs1.out, till_hold hs2.out⟩ (fun _ => ?rb15)
                                    case yb15 => (intro wS hSw; (try dsimp only at hSw); go_split_ands; go_simp <;> with_reducible rfl)
                                    (try simp only [Act.put, List.setIfInBounds_toArray, List.set_cons_zero, List.set_cons_succ])
                                    refine till_take1 (i := 16) (v := ?vb16) rfl (by kernel_rfl) (by kernel_rfl) (by kernel_rfl) (by kernel_rfl) (by kernel_rfl) (by kernel_rfl) (by kernel_rfl) (fun _ _ _ h => h) (Or.inl ⟨by rfl, ?yb16⟩) ⟨till_hold hs1.out, till_hold hs2.out⟩ (fun _ => ?rb16)
                                    case yb16 => (intro wS hSw; (try dsimp only at hSw); go_split_ands; go_simp <;> with_reducible rfl)
                                    (try simp only [Act.put, List.setIfInBounds_toArray, List.set_cons_zero, List.set_cons_succ])
                                    refine till_take1 (i := 17) (v := ?vb17) rfl (by kernel_rfl) (by kernel_rfl) (by kernel_rfl) (by kernel_rfl) (by kernel_rfl) (by kernel_rfl) (by kernel_rfl) (fun _ _ _ h => h) (Or.inl ⟨by rfl, ?yb17⟩) ⟨till_hold hs1.out, till_hold hs2.out⟩ (fun _ => ?rb17)
                                    case yb17 => (intro wS hSw; (try dsimp only at hSw); go_split_ands; go_simp <;> with_reducible rfl)
                                    (try simp only [Act.put, List.setIfInBounds_toArray, List.set_cons_zero, List.set_cons_succ])
                                    refine till_take1 (i := 18) (v := ?vb18) rfl (by kernel_rfl) (by kernel_rfl) (by kernel_rfl) (by kernel_rfl) (by kernel_rfl) (by kernel_rfl) (by kernel_rfl) (fun _ _ _ h => h) (Or.inl ⟨by rfl, ?yb18⟩) ⟨till_hold hs1.out, till_hold hs2.out⟩ (fun _ => ?rb18)
                                    case yb18 => (intro wS hSw; (try dsimp only at hSw); go_split_ands; go_simp <;> with_reducible rfl)
                                    (try simp only [Act.put, List.setIfInBounds_toArray, List.set_cons_zero, List.set_cons_succ])
                                    refine till_take1 (i := 19) (v := ?vb19) rfl (by kernel_rfl) (by kernel_rfl) (by kernel_rfl) (by kernel_rfl) (by kernel_rfl) (by kernel_rfl) (by kernel_rfl) (fun _ _ _ h => h) (Or.inl ⟨by rfl, ?yb19⟩) ⟨till_hold hs1.out, till_hold hs2.out⟩ (fun _ => ?rb19)
                                    case yb19 => (intro wS hSw; (try dsimp only at hSw); go_split_ands; go_simp <;> with_reducible rfl)
                                    (try simp only [Act.put, List.setIfInBounds_toArray, List.set_cons_zero, List.set_cons_succ])
                                    refine till_take1 (i := 20) (v := ?vb20) rfl (by kernel_rfl) (by kernel_rfl) (by kernel_rfl) (by kernel_rfl) (by kernel_rfl) (by kernel_rfl) (by kernel_rfl) (fun _ _ _ h => h) (Or.inl ⟨by rfl, ?yb20⟩) ⟨till_hold hs1.out, till_hold hs2.out⟩ (fun _ => ?rb20)
                                    case yb20 => (intro wS hSw; (try dsimp only at hSw); go_split_ands; go_simp <;> with_reducible rfl)
                                    (try simp only [Act.put, List.setIfInBounds_toArray, List.set_cons_zero, List.set_cons_succ])
                                    refine till_take1 (i := 21) (v := ?vb21) rfl (by kernel_rfl) (by kernel_rfl) (by kernel_rfl) (by kernel_rfl) (by kernel_rfl) (by kernel_rfl) (by kernel_rfl) (fun _ _ _ h => h) (Or.inl ⟨by rfl, ?yb21⟩) ⟨till_hold hs1.out, till_hold hs2.out⟩ (fun _ => ?rb21)
                                    case yb21 => (intro wS hSw; (try dsimp only at hSw); go_split_ands; go_simp <;> with_reducible rfl)
                                    (try simp only [Act.put, List.setIfInBounds_toArray, List.set_cons_zero, List.set_cons_succ])
                                    refine till_take1 (i := 22) (v := ?vb22) rfl (by kernel_rfl) (by kernel_rfl) (by kernel_rfl) (by kernel_rfl) (by kernel_rfl) (by kernel_rfl) (by kernel_rfl) (fun _ _ _ h => h) (Or.inl ⟨by rfl, ?yb22⟩) ⟨till_hold hs1.out, till_hold hs2.out⟩ (fun _ => ?rb22)
                                    case yb22 => (intro wS hSw; (try dsimp only at hSw); go_split_ands; go_simp <;> with_reducible rfl)
                                    (try simp only [Act.put, List.setIfInBounds_toArray, List.set_cons_zero, List.set_cons_succ])
                                    refine till_take1 (i := 23) (v := ?vb23) rfl (by kernel_rfl) (by kernel_rfl) (by kernel_rfl) (by kernel_rfl) (by kernel_rfl) (by kernel_rfl) (by kernel_rfl) (fun _ _ _ h => h) (Or.inl ⟨by rfl, ?yb23⟩) ⟨till_hold hs1.out, till_hold hs2.out⟩ (fun _ => ?rb23)
                                    case yb23 => (intro wS hSw; (try dsimp only at hSw); go_split_ands; go_simp <;> with_reducible rfl)
                                    (try simp only [Act.put, List.setIfInBounds_toArray, List.set_cons_zero, List.set_cons_succ])
                                    refine till_take1 (i := 24) (v := ?vb24) rfl (by kernel_rfl) (by kernel_rfl) (by kernel_rfl) (by kernel_rfl) (by kernel_rfl) (by kernel_rfl) (by kernel_rfl) (fun _ _ _ h => h) (Or.inl ⟨by rfl, ?yb24⟩) ⟨till_hold hs1.out, till_hold hs2.out⟩ (fun _ => ?rb24)
                                    case yb24 => (intro wS hSw; (try dsimp only at hSw); go_split_ands; go_simp <;> with_reducible rfl)
                                    (try simp only [Act.put, List.setIfInBounds_toArray, List.set_cons_zero, List.set_cons_succ])
                                    refine till_take1 (i := 25) (v := ?vb25) rfl (by kernel_rfl) (by kernel_rfl) (by kernel_rfl) (by kernel_rfl) (by kernel_rfl) (by kernel_rfl) (by kernel_rfl) (fun _ _ _ h => h) (Or.inl ⟨by rfl, ?yb25⟩) ⟨till_hold hs1.out, till_hold hs2.out⟩ (fun _ => ?rb25)
                                    case yb25 => (intro wS hSw; (try dsimp only at hSw); go_split_ands; go_simp <;> with_reducible rfl)
                                    (try simp only [Act.put, List.setIfInBounds_toArray, List.set_cons_zero, List.set_cons_succ])
                                    refine till_take1 (i := 26) (v := ?vb26) rfl (by kernel_rfl) (by kernel_rfl) (by kernel_rfl) (by kernel_rfl) (by kernel_rfl) (by kernel_rfl) (by kernel_rfl) (fun _ _ _ h => h) (Or.inl ⟨by rfl, ?yb26⟩) ⟨till_hold hs1.out, till_hold hs2.out⟩ (fun _ => ?rb26)
                                    case yb26 => (intro wS hSw; (try dsimp only at hSw); go_split_ands; go_simp <;> with_reducible rfl)
                                    (try simp only [Act.put, List.setIfInBounds_toArray, List.set_cons_zero, List.set_cons_succ])
                                    refine till_take1 (i := 27) (v := ?vb27) rfl (by kernel_rfl) (by kernel_rfl) (by kernel_rfl) (by kernel_rfl) (by kernel_rfl) (by kernel_rfl) (by kernel_rfl) (fun _ _ _ h => h) (Or.inl ⟨by rfl, ?yb27⟩) ⟨till_hold hs1.out, till_hold hs2.out⟩ (fun _ => ?rb27)
                                    case yb27 => (intro wS hSw; (try dsimp only at hSw); go_split_ands; go_simp <;> with_reducible rfl)
                                    (try simp only [Act.put, List.setIfInBounds_toArray, List.set_cons_zero, List.set_cons_succ])
                                    refine till_take1 (i := 28) (v := ?vb28) rfl (by kernel_rfl) (by kernel_rfl) (by kernel_rfl) (by kernel_rfl) (by kernel_rfl) (by kernel_rfl) (by kernel_rfl) (fun _ _ _ h => h) (Or.inl ⟨by rfl, ?yb28⟩) ⟨till_hold hs1.out, till_hold hs2.out⟩ (fun _ => ?rb28)
                                    case yb28 => (intro wS hSw; (try dsimp only at hSw); go_split_ands; go_simp <;> with_reducible rfl)
                                    (try simp only [Act.put, List.setIfInBounds_toArray, List.set_cons_zero, List.set_cons_succ])
                                    refine till_ready (i := 29) (o := _) (by kernel_rfl) rfl (fun K hK => ?_)
                                    go_simp
                                    refine hK.out _ _ ⟨till_gone (by kernel_rfl), till_gone (by kernel_rfl)⟩ ?_
                                    clear hK K
                                    (try simp only [Act.put, List.setIfInBounds_toArray, List.set_cons_zero, List.set_cons_succ])
                                    refine till_done (by kernel_rfl) ?_ _
                                    go_wp2
                                    go_roundw
                                    case rel => exact ⟨bb + 1, by omega, by go_num, kfw_rel (HE3.out) hT hKB hB hlt2 hlt3 g1 g2⟩
                                    case measure => simp [intOf]; omega
                                  · go_wp2
                                    go_roundw
                                    case rel => exact ⟨bb + 1, by omega, by go_num, by show TabF _ _ _ _ _ _ (rlxK (rlxKB E2 cc aa bb) cc aa bb); rw [← HE3.out, rlxK, if_neg (by omega)]; exact hT, hKB, hB⟩
                                    case measure => simp [intOf]; omega

                                · go_wp2
                                  go_roundw
                                  case rel => exact ⟨bb + 1, by omega, by go_num, by show TabF _ _ _ _ _ _ (rlxK (rlxKB E2 cc aa bb) cc aa bb); rw [← HE3.out, rlxK, if_neg (by omega)]; exact hT, hKB, hB⟩
                                  case measure => simp [intOf]; omega

                              · obtain rfl : k = bb := by omega
                                go_wp2
                                go_roundw
                                case rel => exact ⟨aa + 1, by omega, by go_num, by simpa [rlxKA, HE2.out] using hT, hKB, hB⟩
                                case measure => simp [intOf]; omega

                          · obtain rfl : k = aa := by omega
                            go_wp2
                            go_roundw
                            case rel => exact ⟨cc + 1, by omega, by go_num, by simpa [kfw, HE1.out] using hT, hKB, hB⟩
                            case measure => simp [intOf]; omega

                      · obtain rfl : k = cc := by omega
                        obtain ⟨T, hTT⟩ : ∃ T, T = kfw k E k := ⟨_, rfl⟩
                        rw [← hTT] at hT HF2
                        clear hTT
                        obtain ⟨km0, km1', km2, kr0, kr1, kz0, kz1⟩ := id hKB
                        obtain ⟨w12, rfl⟩ : ∃ w12 : World, w12 = wr := ⟨_, rfl⟩
                        go_wp2_with fail
                        go_loop [208] (fun i => ∃ j : Nat, j ≤ k ∧ i = .int .i64 j ∧ Hid (∀ q, q < j → 0 ≤ T q q)) (fun i => k - (intOf i).toNat)
                        case atStart => exact ⟨0, Nat.zero_le _, rfl, Lib.hid (fun q h => absurd h (Nat.not_lt_zero _))⟩
                        case round =>
                          obtain ⟨j, hj, rfl, hall⟩ := hrel
                          by_cases hlt : j < k
                          · have t1 := hT.row j hlt
                            have t2 := hT.cell j j hlt hlt
                            by_cases hneg : T j j < 0
                            · have HF3 := Lib.hid (HF2.out.trans (if_pos (clash_yes hlt hneg)))
                              go_wp2
                              have hsp := span_put hKB.r0 hKB.r1 (.int .i64 0) (.int .i64 0)
                              obtain ⟨sp0, sp1⟩ := hsp
                              refine bodyPost_ret (v := .tuple #[.agg #[.int .i64 0, .int .i64 0], .bool false, .int .i64 31]) (by simp [results, Try.results59, go_sem, sp0, sp1]) rfl ⟨by rw [HF3.out], (hB.setCell (by show w.heap.size ≤ w.heap.size + 1; omega) _).setCell (by show w.heap.size ≤ w.heap.size + 1; omega) _⟩
                            · go_wp2
                              go_round
                              case rel =>
                                refine ⟨j + 1, by omega, by go_num, Lib.hid (fun q hq => ?_)⟩
                                by_cases hqj : q < j
                                · exact hall.out q hqj
                                · obtain rfl : q = j := by omega
                                  omega
                              case measure => simp [intOf]; omega
                          · obtain rfl : k = j := by omega
                            have HF3 := Lib.hid (HF2.out.trans (if_neg (by rw [clash_no hall.out]; simp)))
                            have t1 := hT.row x (by omega)
                            have t2 := hT.cell x y (by omega) (by omega)
                            by_cases hfar : 1099511627776 ≤ T x y
                            · have HF4 := Lib.hid (HF3.out.trans (if_pos hfar))
                              go_wp2
                              have hsp := span_put hKB.r0 hKB.r1 (.int .i64 0) (.int .i64 0)
                              obtain ⟨sp0, sp1⟩ := hsp
                              refine bodyPost_ret (v := .tuple #[.agg #[.int .i64 0, .int .i64 0], .bool false, .int .i64 0]) (by simp [results, Try.results59, go_sem, sp0, sp1]) rfl ⟨by rw [HF4.out], (hB.setCell (by show w.heap.size ≤ w.heap.size + 1; omega) _).setCell (by show w.heap.size ≤ w.heap.size + 1; omega) _⟩
                            · have HF4 := Lib.hid (HF3.out.trans (if_neg hfar))
                              have t3 := hT.row y (by omega)
                              have t4 := hT.cell y x (by omega) (by omega)
                              have hng := IntWalk.i64_left (-(T x y))
                              have hs1 := Lib.hid (show (fun w' : World => w'.cell? ⟨g, x, none⟩ = some (.slice (some ⟨f x, 0, none⟩) k (c x)) ∧ w'.cell? ⟨g, y, none⟩ = some (.slice (some ⟨f y, 0, none⟩) k (c y)) ∧ w'.cell? ⟨f x, y, none⟩ = some (.int .i64 (T x y)) ∧ w'.cell? ⟨f y, x, none⟩ = some (.int .i64 (T y x))) w12.drew from ⟨cdw t1, cdw t3, cdw t2, cdw t4⟩)
                              have hs2 := Lib.hid trivial
                              go_wp2
                              refine till_region (T := Till2 [16] (fun w' : World => w'.cell? ⟨g, x, none⟩ = some (.slice (some ⟨f x, 0, none⟩) k (c x)) ∧ w'.cell? ⟨g, y, none⟩ = some (.slice (some ⟨f y, 0, none⟩) k (c y)) ∧ w'.cell? ⟨f x, y, none⟩ = some (.int .i64 (T x y)) ∧ w'.cell? ⟨f y, x, none⟩ = some (.int .i64 (T y x))) [16] (fun _ : World => True)) (by kernel_rfl) ⟨till_hold hs1.out, till_hold hs2.out⟩ (fun _ => ?_)
                              refine till_take1 (i := 0) (v := ?vc0) rfl (by kernel_rfl) (by kernel_rfl) (by kernel_rfl) (by kernel_rfl) (by kernel_rfl) (by kernel_rfl) (by kernel_rfl) (fun _ _ _ h => h) (Or.inl ⟨by rfl, ?yc0⟩) ⟨till_hold hs1.out, till_hold hs2.out⟩ (fun _ => ?rc0)
                              case yc0 => (intro wS hSw; (try dsimp only at hSw); go_split_ands; go_simp <;> with_reducible rfl)
                              (try simp only [Act.put, List.setIfInBounds_toArray, List.set_cons_zero, List.set_cons_succ])
                              refine till_take1 (i := 1) (v := ?vc1) rfl (by kernel_rfl) (by kernel_rfl) (by kernel_rfl) (by kernel_rfl) (by kernel_rfl) (by kernel_rfl) (by kernel_rfl) (fun _ _ _ h => h) (Or.inl ⟨by rfl, ?yc1⟩) ⟨till_hold hs1.out, till_hold hs2.out⟩ (fun _ => ?rc1)
                              case yc1 => (intro wS hSw; (try dsimp only at hSw); go_split_ands; go_simp <;> with_reducible rfl)
                              (try simp only [Act.put, List.setIfInBounds_toArray, List.set_cons_zero, List.set_cons_succ])
                              refine till_take1 (i := 2) (v := ?vc2) rfl (by kernel_rfl) (by kernel_rfl) (by kernel_rfl) (by kernel_rfl) (by kernel_rfl) (by kernel_rfl) (by kernel_rfl) (fun _ _ _ h => h) (Or.inl ⟨by rfl, ?yc2⟩) ⟨till_hold hs1.out, till_hold hs2.out⟩ (fun _ => ?rc2)
                              case yc2 => (intro wS hSw; (try dsimp only at hSw); go_split_ands; go_simp <;> with_reducible rfl)
                              (try simp only [Act.put, List.setIfInBounds_toArray, List.set_cons_zero, List.set_cons_succ])
                              refine till_take1 (i := 3) (v := ?vc3) rfl (by kernel_rfl) (by kernel_rfl) (by kernel_rfl) (by kernel_rfl) (by kernel_rfl) (by kernel_rfl) (by kernel_rfl) (fun _ _ _ h => h) (Or.inl ⟨by rfl, ?yc3⟩) ⟨till_hold hs1.out, till_hold hs2.out⟩ (fun _ => ?rc3)
                              case yc3 => (intro wS hSw; (try dsimp only at hSw); go_split_ands; go_simp <;> with_reducible rfl)
                              (try simp only [Act.put, List.setIfInBounds_toArray, List.set_cons_zero, List.set_cons_succ])
                              refine till_take1 (i := 4) (v := ?vc4) rfl (by kernel_rfl) (by kernel_rfl) (by kernel_rfl) (by kernel_rfl) (by kernel_rfl) (by kernel_rfl) (by kernel_rfl) (fun _ _ _ h => h) (Or.inl ⟨by rfl, ?yc4⟩) ⟨till_hold hs1.out, till_hold hs2.out⟩ (fun _ => ?rc4)
                              case yc4 => (intro wS hSw; (try dsimp only at hSw); go_split_ands; go_simp <;> with_reducible rfl)
                              (try simp only [Act.put, List.setIfInBounds_toArray, List.set_cons_zero, List.set_cons_succ])
                              refine till_take1 (i := 5) (v := ?vc5) rfl (by kernel_rfl) (by kernel_rfl) (by kernel_rfl) (by kernel_rfl) (by kernel_rfl) (by kernel_rfl) (by kernel_rfl) (fun _ _ _ h => h) (Or.inl ⟨by rfl, ?yc5⟩) ⟨till_hold hs1.out, till_hold hs2.out⟩ (fun _ => ?rc5)
                              case yc5 => (intro wS hSw; (try dsimp only at hSw); go_split_ands; go_simp <;> with_reducible rfl)
                              (try simp only [Act.put, List.setIfInBounds_toArray, List.set_cons_zero, List.set_cons_succ])
                              refine till_take1 (i := 6) (v := ?vc6) rfl (by kernel_rfl) (by kernel_rfl) (by kernel_rfl) (by kernel_rfl) (by kernel_rfl) (by kernel_rfl) (by kernel_rfl) (fun _ _ _ h => h) (Or.inl ⟨by rfl, ?yc6⟩) ⟨till_hold hs1.out, till_hold hs2.out⟩ (fun _ => ?rc6)
                              case yc6 => (intro wS hSw; (try dsimp only at hSw); go_split_ands; go_simp <;> with_reducible rfl)
                              (try simp only [Act.put, List.setIfInBounds_toArray, List.set_cons_zero, List.set_cons_succ])
                              refine till_take1 (i := 7) (v := ?vc7) rfl (by kernel_rfl) (by kernel_rfl) (by kernel_rfl) (by kernel_rfl) (by kernel_rfl) (by kernel_rfl) (by kernel_rfl) (fun _ _ _ h => h) (Or.inl ⟨by rfl, ?yc7⟩) ⟨till_hold hs1.out, till_hold hs2.out⟩ (fun _ => ?rc7)
                              case yc7 => (intro wS hSw; (try dsimp only at hSw); go_split_ands; go_simp <;> with_reducible rfl)
                              (try simp only [Act.put, List.setIfInBounds_toArray, List.set_cons_zero, List.set_cons_succ])
                              refine till_take1 (i := 8) (v := ?vc8) rfl (by kernel_rfl) (by kernel_rfl) (by kernel_rfl) (by kernel_rfl) (by kernel_rfl) (by kernel_rfl) (by kernel_rfl) (fun _ _ _ h => h) (Or.inl ⟨by rfl, ?yc8⟩) ⟨till_hold hs1.out, till_hold hs2.out⟩ (fun _ => ?rc8)
                              case yc8 => (intro wS hSw; (try dsimp only at hSw); go_split_ands; go_simp <;> with_reducible rfl)
                              (try simp only [Act.put, List.setIfInBounds_toArray, List.set_cons_zero, List.set_cons_succ])
                              refine till_take1 (i := 9) (v := ?vc9) rfl (by kernel_rfl) (by kernel_rfl) (by kernel_rfl) (by kernel_rfl) (by kernel_rfl) (by kernel_rfl) (by kernel_rfl) (fun _ _ _ h => h) (Or.inl ⟨by rfl, ?yc9⟩) ⟨till_hold hs1.out, till_hold hs2.out⟩ (fun _ => ?rc9)
                              case yc9 => (intro wS hSw; (try dsimp only at hSw); go_split_ands; go_simp <;> with_reducible rfl)
                              (try simp only [Act.put, List.setIfInBounds_toArray, List.set_cons_zero, List.set_cons_succ])
                              refine till_take1 (i := 10) (v := ?vc10) rfl (by kernel_rfl) (by kernel_rfl) (by kernel_rfl) (by kernel_rfl) (by kernel_rfl) (by kernel_rfl) (by kernel_rfl) (fun _ _ _ h => h) (Or.inl ⟨by rfl, ?yc10⟩) ⟨till_hold hs1.out, till_hold hs2.out⟩ (fun _ => ?rc10)
                              case yc10 => (intro wS hSw; (try dsimp only at hSw); go_split_ands; go_simp <;> with_reducible rfl)
                              (try simp only [Act.put, List.setIfInBounds_toArray, List.set_cons_zero, List.set_cons_succ])
                              refine till_take1 (i := 11) (v := ?vc11) rfl (by kernel_rfl) (by kernel_rfl) (by kernel_rfl) (by kernel_rfl) (by kernel_rfl) (by kernel_rfl) (by kernel_rfl) (fun _ _ _ h => h) (Or.inl ⟨by rfl, ?yc11⟩) ⟨till_hold hs1.out, till_hold hs2.out⟩ (fun _ => ?rc11)
                              case yc11 => (intro wS hSw; (try dsimp only at hSw); go_split_ands; go_simp <;> with_reducible rfl)
                              (try simp only [Act.put, List.setIfInBounds_toArray, List.set_cons_zero, List.set_cons_succ])
                              refine till_take1 (i := 12) (v := ?vc12) rfl (by kernel_rfl) (by kernel_rfl) (by kernel_rfl) (by kernel_rfl) (by kernel_rfl) (by kernel_rfl) (by kernel_rfl) (fun _ _ _ h => h) (Or.inl ⟨by rfl, ?yc12⟩) ⟨till_hold hs1.out, till_hold hs2.out⟩ (fun _ => ?rc12)
                              case yc12 => (intro wS hSw; (try dsimp only at hSw); go_split_ands; go_simp <;> with_reducible rfl)
                              (try simp only [Act.put, List.setIfInBounds_toArray, List.set_cons_zero, List.set_cons_succ])
                              refine till_take1 (i := 13) (v := ?vc13) rfl (by kernel_rfl) (by kernel_rfl) (by kernel_rfl) (by kernel_rfl) (by kernel_rfl) (by kernel_rfl) (by kernel_rfl) (fun _ _ _ h => h) (Or.inl ⟨by rfl, ?yc13⟩) ⟨till_hold hs1.out, till_hold hs2.out⟩ (fun _ => ?rc13)
                              case yc13 => (intro wS hSw; (try dsimp only at hSw); go_split_ands; go_simp <;> with_reducible rfl)
                              (try simp only [Act.put, List.setIfInBounds_toArray, List.set_cons_zero, List.set_cons_succ])
                              refine till_take1 (i := 14) (v := ?vc14) rfl (by kernel_rfl) (by kernel_rfl) (by kernel_rfl) (by kernel_rfl) (by kernel_rfl) (by kernel_rfl) (by kernel_rfl) (fun _ _ _ h => h) (Or.inl ⟨by rfl, ?yc14⟩) ⟨till_hold hs1.out, till_hold hs2.out⟩ (fun _ => ?rc14)
                              case yc14 => (intro wS hSw; (try dsimp only at hSw); go_split_ands; go_simp <;> with_reducible rfl)
                              (try simp only [Act.put, List.setIfInBounds_toArray, List.set_cons_zero, List.set_cons_succ])
                              refine till_take1 (i := 15) (v := ?vc15) rfl (by kernel_rfl) (by kernel_rfl) (by kernel_rfl) (by kernel_rfl) (by kernel_rfl) (by kernel_rfl) (by kernel_rfl) (fun _ _ _ h => h) (Or.inl ⟨by rfl, ?yc15⟩) ⟨till_hold hs1.out, till_hold hs2.out⟩ (fun _ => ?rc15)
                              case yc15 => (intro wS hSw; (try dsimp only at hSw); go_split_ands; go_simp <;> with_reducible rfl)
                              (try simp only [Act.put, List.setIfInBounds_toArray, List.set_cons_zero, List.set_cons_succ])
                              refine till_ready (i := 16) (o := _) (by kernel_rfl) rfl (fun K hK => ?_)
                              go_simp
                              refine hK.out _ _ ⟨till_gone (by kernel_rfl), till_gone (by kernel_rfl)⟩ ?_
                              clear hK K
                              (try simp only [Act.put, List.setIfInBounds_toArray, List.set_cons_zero, List.set_cons_succ])
                              refine till_ready (i := 17) (o := _) (by kernel_rfl) rfl (fun K hK => ?_)
                              go_simp
                              refine hK.out _ _ ⟨till_gone (by kernel_rfl), till_gone (by kernel_rfl)⟩ ?_
                              clear hK K
                              (try simp only [Act.put, List.setIfInBounds_toArray, List.set_cons_zero, List.set_cons_succ])
                              refine till_ready (i := 18) (o := _) (by kernel_rfl) rfl (fun K hK => ?_)
                              go_simp
                              refine hK.out _ _ ⟨till_gone (by kernel_rfl), till_gone (by kernel_rfl)⟩ ?_
                              clear hK K
                              (try simp only [Act.put, List.setIfInBounds_toArray, List.set_cons_zero, List.set_cons_succ])
                              refine till_done (by kernel_rfl) ?_ _
                              have hsp := span_put kr0 kr1 (.int .i64 (wrap64 (-(T x y)))) (.int .i64 (T y x))
                              obtain ⟨sp0, sp1⟩ := hsp
                              have sp2 := World.cell?_setCell_same w12 _ (.int .i64 (wrap64 (-(T x y)))) kr0
                              go_wp2
                              refine bodyPost_ret (v := .tuple #[.agg #[.int .i64 (wrap64 (-(T x y))), .int .i64 (T y x)], .bool true, .int .i64 0]) (by simp [results, Try.results59, go_sem, sp0, sp1, sp2]) rfl ⟨by rw [HF4.out], (hB.drew.setCell (by show w.heap.size ≤ w.heap.size + 1; omega) _).setCell (by show w.heap.size ≤ w.heap.size + 1; omega) _⟩

end Go.Proofs.Ytjdldmecjhddnaa
