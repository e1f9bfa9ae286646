/- Plain mathematics of KeeperScaled: all widths, or all costs, k times as great. -/
import Derived.Test.YtjdldmecjhddnaaKM9
namespace Go.Proofs.Ytjdldmecjhddnaa
set_option linter.unusedVariables false
set_option linter.unusedSimpArgs false

def wideM (k : Int) (m : Mk) : Mk := ⟨m.n, m.ks.map (scO k), m.os.map (scO k)⟩
def deO (k : Int) (o : Off) : Off := ⟨o.A, o.B, o.C * k, o.W⟩
def dearM (k : Int) (m : Mk) : Mk := ⟨m.n, m.ks, m.os.map (deO k)⟩
theorem known_free {m : Mk} (hok : m.ok = true) {o : Off} (ho : o ∈ m.ks) : o.C = 0 := by
  have h := isOff_iff ((okM hok).ks o ho)
  have := h.c0; have := h.c1
  omega
theorem stp_map {f : Off → Off} (hA : ∀ o, (f o).A = o.A) (hB : ∀ o, (f o).B = o.B) (hW : ∀ o, (f o).W = o.W) (l : List Off) : stp (l.map f) = stp l := by
  funext x y
  unfold stp
  rw [List.foldl_map]
  unfold joins
  simp only [hA, hB, hW]
theorem wd_map {f : Off → Off} (hA : ∀ o, (f o).A = o.A) (hB : ∀ o, (f o).B = o.B) (hW : ∀ o, (f o).W = o.W) (n : Nat) (l : List Off) : wd n (l.map f) = wd n l := by
  have : stp0 (l.map f) = stp0 l := by funext x y; unfold stp0; rw [stp_map hA hB hW]
  unfold wd
  rw [this]
theorem sum_sc (k : Int) : ∀ (l : List Off) (s : Int), (l.map (deO k)).foldl (fun s o => s + o.C) (s * k) = (l.foldl (fun s o => s + o.C) s) * k
  | [], s => rfl
  | o :: l, s => by
    rw [List.map_cons, List.foldl_cons, List.foldl_cons, ← sum_sc k l (s + o.C), Int.add_mul]
    rfl
theorem cost_dear {k : Int} {os : List Off} {l : List Int} (h : ∀ x ∈ l, 0 ≤ x ∧ x < os.length) : costL (os.map (deO k)) l = costL os l * k := by
  unfold costL
  rw [sel_map h]
  have := sum_sc k (sel os l) 0
  rw [Int.zero_mul] at this
  exact this
theorem cmpI_sc {k c d : Int} (hk : 0 < k) : cmpI (c * k) (d * k) = cmpI c d := by
  unfold cmpI
  have h1 : c * k < d * k ↔ c < d := ⟨fun h => Int.lt_of_mul_lt_mul_right h (Int.le_of_lt hk), fun h => Int.mul_lt_mul_of_pos_right h hk⟩
  have h2 : d * k < c * k ↔ d < c := ⟨fun h => Int.lt_of_mul_lt_mul_right h (Int.le_of_lt hk), fun h => Int.mul_lt_mul_of_pos_right h hk⟩
  simp only [h1, h2]
section
variable {m : Mk} {k : Int} (hok : m.ok = true) (hk1 : 1 ≤ k) (hk2 : k ≤ 1000)
include hok hk1 hk2
theorem wd_wide {l : List Int} (hl : ∀ x ∈ l, 0 ≤ x ∧ x < m.os.length) (ho : ∀ o ∈ comps m l, IsOff o m.n 10000) (i j : Nat) (hi : i < m.n.toNat) (hj : j < m.n.toNat) :
    wd m.n.toNat (comps (wideM k m) l) i j = if wd m.n.toNat (comps m l) i j < far then wd m.n.toNat (comps m l) i j * k else far := by
  have e : comps (wideM k m) l = (comps m l).map (scO k) := comps_map hl
  rw [e]
  have := (okM hok).n8
  exact wd_sc (by omega) hk1 hk2 (fun o h => (ho o h).w0) (fun o h => (ho o h).w1) i j hi hj
theorem wdS_wide {s : Nat} (hs : s < 2 ^ m.os.length) {a b : Int} (ha : 0 ≤ a ∧ a < m.n) (hb : 0 ≤ b ∧ b < m.n) : wdS (wideM k m) s a b = if wdS m s a b < far then wdS m s a b * k else far :=
  wd_wide hok hk1 hk2 (bits_in hs) (comps_offS hok hs) _ _ (by omega) (by omega)
theorem least_wide {a b width : Int} (ha : 0 ≤ a ∧ a < m.n) (hb : 0 ≤ b ∧ b < m.n) (hw : width * k ≤ 16777216) (h0 : 0 ≤ width) (h1 : width ≤ 16777216) :
    leastS (wideM k m).os (fun s => decide (wdS (wideM k m) s a b ≤ width * k)) = leastS m.os (fun s => decide (wdS m s a b ≤ width)) := by
  have hl : (wideM k m).os.length = m.os.length := by simp [wideM]
  refine leastS_congr hl (fun s hs => ?_) (fun s t hs ht => ?_)
  · rw [hl] at hs
    rw [wdS_wide hok hk1 hk2 hs ha hb]
    have hfar : far = 1099511627776 := rfl
    have hk0 : 0 < k := by omega
    have hm : wdS m s a b * k ≤ width * k ↔ wdS m s a b ≤ width := ⟨fun h => Int.le_of_mul_le_mul_right h hk0, fun h => Int.mul_le_mul_of_nonneg_right h (by omega)⟩
    by_cases h : wdS m s a b < far
    · rw [if_pos h]
      by_cases h2 : wdS m s a b ≤ width
      · rw [decide_eq_true h2, decide_eq_true (hm.2 h2)]
      · rw [decide_eq_false h2, decide_eq_false (fun h3 => h2 (hm.1 h3))]
    · rw [if_neg h, decide_eq_false (show ¬ far ≤ width * k by omega), decide_eq_false (show ¬ wdS m s a b ≤ width by omega)]
  · rw [hl] at hs ht
    have e1 : costS (wideM k m).os s = costS m.os s := cost_map (f := scO k) (fun o => rfl) (bits_in hs)
    have e2 : costS (wideM k m).os t = costS m.os t := cost_map (f := scO k) (fun o => rfl) (bits_in ht)
    rw [e1, e2]
end
theorem dear_eq {m : Mk} (hok : m.ok = true) (k : Int) : dearM k m = ⟨m.n, m.ks.map (deO k), m.os.map (deO k)⟩ := by
  unfold dearM
  congr 1
  have : ∀ o ∈ m.ks, deO k o = id o := fun o ho => by
    have := known_free hok ho
    obtain ⟨A, B, C, W⟩ := o
    simp only at this
    subst this
    simp [deO]
  rw [List.map_congr_left this, List.map_id]
theorem comps_dear {m : Mk} (hok : m.ok = true) {k : Int} {l : List Int} (hl : ∀ x ∈ l, 0 ≤ x ∧ x < m.os.length) (n : Nat) : wd n (comps (dearM k m) l) = wd n (comps m l) := by
  rw [dear_eq hok, comps_map hl]
  exact wd_map (f := deO k) (fun _ => rfl) (fun _ => rfl) (fun _ => rfl) _ _
theorem os_dear {m : Mk} {k : Int} : (dearM k m).os.length = m.os.length := by simp [dearM]
theorem least_dear {m : Mk} {k : Int} (hk1 : 1 ≤ k) {p p' : Nat → Bool} (hp : ∀ s, s < 2 ^ m.os.length → p' s = p s) : leastS (dearM k m).os p' = leastS m.os p := by
  refine leastS_congr os_dear (fun s hs => hp s (by rwa [os_dear] at hs)) (fun s t hs ht => ?_)
  rw [os_dear] at hs ht
  have e1 : costS (dearM k m).os s = costS m.os s * k := cost_dear (bits_in hs)
  have e2 : costS (dearM k m).os t = costS m.os t * k := cost_dear (bits_in ht)
  rw [e1, e2]
  unfold bef
  rw [cmpI_sc (by omega)]
theorem costS_bd {m : Mk} (hok : m.ok = true) (s : Nat) : 0 ≤ costS m.os s ∧ costS m.os s ≤ 120000 := chC_bd m hok (some s)
theorem scaled {m : Mk} {l : List Int} {a b width k : Int} {x : Nat} (hask : askedB m l [a, b] = true) (h0 : 0 ≤ width) (h1 : width ≤ 16777216) (hk1 : 1 ≤ k) (hk2 : k ≤ 1000) (hx : x < m.os.length) :
    ∃ bl is n kn c p so e, bestF m a b width = (bl, is, 0) ∧ widthF m l a b = (n, kn, 0) ∧ bl.length ≤ 140737488355328 ∧ costF m bl = (c, 0) ∧ priceF m a b width x = (p, so, e) ∧ 0 ≤ n ∧ n ≤ 7340032 ∧ 0 ≤ c ∧ c ≤ 120000 ∧ -120000 ≤ p ∧ p ≤ 120000
      ∧ ((wideM k m).ok = true → widthF (wideM k m) l a b = (n * k, kn, 0) ∧ (width * k ≤ 16777216 → bestF (wideM k m) a b (width * k) = (bl, is, 0)))
      ∧ ((dearM k m).ok = true → bestF (dearM k m) a b width = (bl, is, 0) ∧ costF (dearM k m) bl = (k * c, 0) ∧ priceF (dearM k m) a b width x = (k * p, so, e)) := by
  obtain ⟨_, _, hok, hr, hcl⟩ := asked_yes hask
  have hcl' := clock_bd hcl
  have ha := hcl' a (by simp)
  have hb' := hcl' b (by simp)
  have hb : askE m [] [a, b] [width] = 0 := ask_of hok (right_nil _) hcl (size_ok h0 h1)
  obtain ⟨g1, g2⟩ := set_of hok hr
  have hwL := wdL_set hok hr a b
  obtain ⟨n, kn, e1, q1, q2⟩ := width_right (l := l) hok hr hcl
  have hfar : far = 1099511627776 := rfl
  have hnn : 0 ≤ wdS m (setN l) a b := wd_nn (fun o ho => (comps_offS hok g1 o ho).w0) _ _ (by omega) (by omega)
  have hn : 0 ≤ n ∧ n ≤ 7340032 := by
    cases kn with
    | true =>
      obtain ⟨h2, h3⟩ := q1 rfl
      rw [hwL] at h2 h3
      have := wdS_small hok g1 (a := a.toNat) (b := b.toNat) (by omega) (by omega) h3
      have h4 : wdS m (setN l) a b ≤ 7340032 := this
      omega
    | false => have := (q2 rfl).1; omega
  have hdl : ∀ s, s < 2 ^ m.os.length → wdS (dearM k m) s a b = wdS m s a b := fun s hs => by
    unfold wdS; rw [comps_dear hok (bits_in hs)]; rfl
  have hre : askE (dearM k m) [] [a, b] [width] = 0 → reachE (dearM k m) a b width = reachE m a b width := fun h => by
    have : allN (dearM k m) = allN m := by unfold allN; rw [os_dear]
    unfold reachE
    rw [hb, h, this, hdl _ (all_lt m)]
  have hprice : ∃ p so e, priceF m a b width x = (p, so, e) ∧ -120000 ≤ p ∧ p ≤ 120000 ∧ ((dearM k m).ok = true → priceF (dearM k m) a b width x = (k * p, so, e)) := by
    have e2 : leastS (dearM k m).os (woP (dearM k m) a b width x) = leastS m.os (woP m a b width x) := least_dear hk1 (fun s hs => by unfold woP; rw [hdl s hs])
    have e3 : leastS (dearM k m).os (withP (dearM k m) a b width x) = leastS m.os (withP m a b width x) := least_dear hk1 (fun s hs => by unfold withP; rw [hdl s hs])
    unfold priceF
    rw [hb, os_dear, if_neg (by simp), if_neg (by simp; omega), show (x : Int).toNat = x from rfl, e2, e3]
    by_cases hr0 : reachE m a b width ≠ 0
    · refine ⟨_, _, _, if_pos hr0, by omega, by omega, fun hd => ?_⟩
      have h3 : askE (dearM k m) [] [a, b] [width] = 0 := ask_of hd (right_nil _) hcl (size_ok h0 h1)
      rw [h3, if_neg (by simp), if_neg (by simp; omega), hre h3, if_pos hr0, Int.mul_zero]
    · rw [if_neg hr0]
      cases hwo : leastS m.os (woP m a b width x) with
      | none =>
        refine ⟨_, _, _, rfl, by omega, by omega, fun hd => ?_⟩
        have h3 : askE (dearM k m) [] [a, b] [width] = 0 := ask_of hd (right_nil _) hcl (size_ok h0 h1)
        rw [h3, if_neg (by simp), if_neg (by simp; omega), hre h3, if_neg hr0, Int.mul_zero]
      | some t =>
        have ht := (leastS_some hwo).2.1
        have hbt := costS_bd hok t
        have hbc := chC_bd m hok (leastS m.os (withP m a b width x))
        have hbt' : 0 ≤ costL m.os (bits 12 t) ∧ costL m.os (bits 12 t) ≤ 120000 := hbt
        refine ⟨_, _, _, rfl, by omega, by omega, fun hd => ?_⟩
        have h3 : askE (dearM k m) [] [a, b] [width] = 0 := ask_of hd (right_nil _) hcl (size_ok h0 h1)
        rw [h3, if_neg (by simp), if_neg (by simp; omega), hre h3, if_neg hr0]
        have e4 : costL (dearM k m).os (bits 12 t) = costL m.os (bits 12 t) * k := cost_dear (bits_in ht)
        have e5 : chC (dearM k m).os (leastS m.os (withP m a b width x)) = chC m.os (leastS m.os (withP m a b width x)) * k := by
          cases hwi : leastS m.os (withP m a b width x) with
          | none => show (0 : Int) = 0 * k; rw [Int.zero_mul]
          | some u => exact cost_dear (bits_in (leastS_some hwi).2.1)
        simp only
        rw [e4, e5, ← Int.sub_mul, Int.mul_comm]
  obtain ⟨p, so, e, hp1, hp2, hp3, hp4⟩ := hprice
  have hbest : ∃ bl is c, bestF m a b width = (bl, is, 0) ∧ bl.length ≤ 140737488355328 ∧ costF m bl = (c, 0) ∧ 0 ≤ c ∧ c ≤ 120000 ∧ ((wideM k m).ok = true → width * k ≤ 16777216 → bestF (wideM k m) a b (width * k) = (bl, is, 0))
      ∧ ((dearM k m).ok = true → bestF (dearM k m) a b width = (bl, is, 0) ∧ costF (dearM k m) bl = (k * c, 0)) := by
    have hwk : 0 ≤ width * k := Int.mul_nonneg h0 (by omega)
    have e2 : leastS (dearM k m).os (fun s => decide (wdS (dearM k m) s a b ≤ width)) = leastS m.os (fun s => decide (wdS m s a b ≤ width)) := least_dear hk1 (fun s hs => by simp only [hdl s hs])
    unfold bestF
    rw [hb, e2]
    cases hl : leastS m.os (fun s => decide (wdS m s a b ≤ width)) with
    | none =>
      refine ⟨[], false, 0, rfl, by decide, cost_right hok (right_nil _), by omega, by omega, fun hw hle => ?_, fun hd => ⟨?_, ?_⟩⟩
      · rw [least_wide hok hk1 hk2 ha hb' hle h0 h1, hl]
        exact found_none (ask_of hw (right_nil _) hcl (size_ok hwk hle))
      · exact found_none (ask_of hd (right_nil _) hcl (size_ok h0 h1))
      · rw [cost_right hd (right_nil _), Int.mul_zero]; rfl
    | some s =>
      have hs := (leastS_some hl).2.1
      have hbs := costS_bd hok s
      refine ⟨_, true, costS m.os s, rfl, bits_small s, cost_bits hok hs, hbs.1, hbs.2, fun hw hle => ?_, fun hd => ⟨?_, ?_⟩⟩
      · rw [least_wide hok hk1 hk2 ha hb' hle h0 h1, hl]
        exact found_some (ask_of hw (right_nil _) hcl (size_ok hwk hle))
      · exact found_some (ask_of hd (right_nil _) hcl (size_ok h0 h1))
      · rw [cost_bits hd (by rw [os_dear]; exact hs), Int.mul_comm]
        exact congrArg (fun z => (z, 0)) (cost_dear (bits_in hs))
  obtain ⟨bl, is, c, f1, f2, f3, f4, f5, f6, f7⟩ := hbest
  refine ⟨bl, is, n, kn, c, p, so, e, f1, e1, f2, f3, hp1, hn.1, hn.2, f4, f5, hp2, hp3, fun hw => ⟨?_, f6 hw⟩, fun hd => ⟨(f7 hd).1, (f7 hd).2, hp4 hd⟩⟩
  have hwd : wdL (wideM k m) l a b = if wdL m l a b < far then wdL m l a b * k else far := by
    have := wdS_wide hok hk1 hk2 g1 ha hb'
    unfold wdS at this
    rw [g2] at this
    exact this
  have hask : askE (wideM k m) l [a, b] [] = 0 := ask_of hw (by show right (m.os.map (scO k)).length l = true; rw [List.length_map]; exact hr) hcl rfl
  unfold widthF
  rw [if_neg (by rw [hask]; simp), hwd]
  cases kn with
  | true =>
    obtain ⟨h2, h3⟩ := q1 rfl
    have h4 : n * k ≤ 7340032 * k := Int.mul_le_mul_of_nonneg_right hn.2 (by omega)
    have h5 : (7340032 : Int) * k ≤ 7340032 * 1000 := Int.mul_le_mul_of_nonneg_left hk2 (by decide)
    rw [if_pos (show wdL m l a b < far by omega), ← h2, if_neg (show ¬ 1099511627776 ≤ n * k by omega)]
  | false =>
    obtain ⟨h2, h3⟩ := q2 rfl
    rw [if_neg (show ¬ wdL m l a b < far by omega), if_pos (show (1099511627776 : Int) ≤ far by decide), h2, Int.zero_mul]
end Go.Proofs.Ytjdldmecjhddnaa
