/- Plain mathematics of KeeperNamed: two clocks exchange their numbers. -/
import Derived.Test.YtjdldmecjhddnaaKM8
namespace Go.Proofs.Ytjdldmecjhddnaa
set_option linter.unusedVariables false
set_option linter.unusedSimpArgs false

/-- The market in which two clocks have exchanged their numbers. -/
def swM (x y : Int) (m : Mk) : Mk := ⟨m.n, m.ks.map (swO x y), m.os.map (swO x y)⟩
theorem leastS_congr {os os' : List Off} {p p' : Nat → Bool} (hl : os.length = os'.length) (hp : ∀ s, s < 2 ^ os.length → p s = p' s) (hb : ∀ s t, s < 2 ^ os.length → t < 2 ^ os.length → (bef (costS os s) s (costS os t) t = bef (costS os' s) s (costS os' t) t)) : leastS os p = leastS os' p' := by
  unfold leastS; rw [← hl]; exact leastN_congr _ hp hb
theorem sel_map {f : Off → Off} {os : List Off} {l : List Int} (h : ∀ x ∈ l, 0 ≤ x ∧ x < os.length) : sel (os.map f) l = (sel os l).map f := by
  unfold sel
  rw [List.map_map]
  refine List.map_congr_left (fun x hx => ?_)
  have := h x hx
  show (os.map f).getD x.toNat default = f (os.getD x.toNat default)
  rw [List.getD_eq_getElem?_getD, List.getD_eq_getElem?_getD, List.getElem?_map, List.getElem?_eq_getElem (show x.toNat < os.length by omega)]
  rfl
theorem bits_in {m : Mk} {s : Nat} (hs : s < 2 ^ m.os.length) : ∀ x ∈ bits 12 s, 0 ≤ x ∧ x < m.os.length := fun x hx => by
  obtain ⟨a, b, c⟩ := mem_bits.1 hx
  have := bit_lt hs c
  omega
theorem comps_map {f : Off → Off} {m : Mk} {l : List Int} (h : ∀ x ∈ l, 0 ≤ x ∧ x < m.os.length) : comps ⟨m.n, m.ks.map f, m.os.map f⟩ l = (comps m l).map f := by
  unfold comps
  rw [List.map_append, sel_map h]
theorem cost_map {f : Off → Off} (hf : ∀ o, (f o).C = o.C) {os : List Off} {l : List Int} (h : ∀ x ∈ l, 0 ≤ x ∧ x < os.length) : costL (os.map f) l = costL os l := by
  unfold costL
  rw [sel_map h, List.foldl_map]
  simp only [hf]
section
variable {m : Mk} {x y : Int} (hok : m.ok = true) (hx : 0 ≤ x ∧ x < m.n) (hy : 0 ≤ y ∧ y < m.n)
include hx hy
theorem swI_in {c : Int} (hc : 0 ≤ c ∧ c < m.n) : 0 ≤ swI x y c ∧ swI x y c < m.n := by unfold swI; split <;> (try split) <;> omega
theorem isOff_sw {o : Off} {c : Int} (h : isOff o m.n c = true) : isOff (swO x y o) m.n c = true := by
  obtain ⟨h1, h2, h3, h4, h5, h6, h7, h8, h9⟩ := isOff_iff h
  have ha := swI_in hx hy ⟨h1, h2⟩
  have hb := swI_in hx hy ⟨h3, h4⟩
  have hne : swI x y o.A ≠ swI x y o.B := by
    intro e
    have := congrArg (swI x y) e
    rw [swI_swI, swI_swI] at this
    exact h5 this
  unfold isOff swO
  simp only [Bool.and_eq_true, decide_eq_true_eq]
  exact ⟨⟨⟨⟨⟨⟨⟨⟨ha.1, ha.2⟩, hb.1⟩, hb.2⟩, hne⟩, h6⟩, h7⟩, h8⟩, h9⟩
include hok
theorem swM_ok : (swM x y m).ok = true := by
  have h := okM hok
  unfold Mk.ok swM
  simp only [Bool.and_eq_true, decide_eq_true_eq, List.all_eq_true, List.length_map]
  refine ⟨⟨⟨⟨⟨h.n2, h.n8⟩, h.k24⟩, h.o12⟩, fun o ho => ?_⟩, fun o ho => ?_⟩
  · obtain ⟨o', h1, rfl⟩ := List.mem_map.1 ho
    exact isOff_sw hx hy (h.ks o' h1)
  · obtain ⟨o', h1, rfl⟩ := List.mem_map.1 ho
    exact isOff_sw hx hy (h.os o' h1)
omit hx hy hok in
theorem swI_toNat {c : Int} (hx : 0 ≤ x) (hy : 0 ≤ y) (hc : 0 ≤ c) : (swI x y c).toNat = swN x.toNat y.toNat c.toNat := by
  obtain ⟨x, rfl⟩ := Int.eq_ofNat_of_zero_le hx
  obtain ⟨y, rfl⟩ := Int.eq_ofNat_of_zero_le hy
  obtain ⟨c, rfl⟩ := Int.eq_ofNat_of_zero_le hc
  rw [swI_nat]; rfl
omit hok in
theorem wd_swM {l : List Int} (hl : ∀ x ∈ l, 0 ≤ x ∧ x < m.os.length) (hw : ∀ o ∈ comps m l, 0 ≤ o.W) (i j : Nat) (hi : i < m.n.toNat) (hj : j < m.n.toNat) :
    wd m.n.toNat (comps (swM x y m) l) (swN x.toNat y.toNat i) (swN x.toNat y.toNat j) = wd m.n.toNat (comps m l) i j := by
  have e : comps (swM x y m) l = (comps m l).map (swO (x.toNat : Nat) (y.toNat : Nat)) := by
    have hx' : ((x.toNat : Nat) : Int) = x := by omega
    have hy' : ((y.toNat : Nat) : Int) = y := by omega
    rw [hx', hy']
    exact comps_map hl
  rw [e]
  exact wd_sw (by omega) (by omega) hw i j hi hj
theorem wdS_swM {s : Nat} (hs : s < 2 ^ m.os.length) {a b : Int} (ha : 0 ≤ a ∧ a < m.n) (hb : 0 ≤ b ∧ b < m.n) : wdS (swM x y m) s (swI x y a) (swI x y b) = wdS m s a b := by
  show wd m.n.toNat (comps (swM x y m) (bits 12 s)) (swI x y a).toNat (swI x y b).toNat = wd m.n.toNat (comps m (bits 12 s)) a.toNat b.toNat
  rw [swI_toNat hx.1 hy.1 ha.1, swI_toNat hx.1 hy.1 hb.1]
  exact wd_swM hx hy (bits_in hs) (fun o ho => (comps_offS hok hs o ho).w0) _ _ (by omega) (by omega)
omit hx hy hok in
theorem cost_sw {s : Nat} (hs : s < 2 ^ m.os.length) : costS (swM x y m).os s = costS m.os s := cost_map (f := swO x y) (fun o => rfl) (bits_in hs)
omit hx hy hok in
theorem os_sw : (swM x y m).os.length = m.os.length := by simp [swM]
omit hx hy hok in
theorem least_sw {p p' : Nat → Bool} (hp : ∀ s, s < 2 ^ m.os.length → p' s = p s) : leastS (swM x y m).os p' = leastS m.os p := by
  refine leastS_congr os_sw (fun s hs => hp s (by rwa [os_sw] at hs)) (fun s t hs ht => ?_)
  rw [os_sw] at hs ht
  rw [cost_sw hs, cost_sw ht]
omit hx hy hok in
theorem chC_sw {m : Mk} {p : Nat → Bool} : chC (swM x y m).os (leastS m.os p) = chC m.os (leastS m.os p) := by
  cases e : leastS m.os p with
  | none => rfl
  | some s => exact cost_sw (leastS_some e).2.1
omit hx hy hok in
theorem price_sw {m : Mk} {p : Nat → Bool} {t : Nat} (h : leastS m.os p = some t) : costL (swM x y m).os (bits 12 t) = costL m.os (bits 12 t) := cost_sw (leastS_some h).2.1
theorem allS_sw {s : Nat} (hs : s < 2 ^ m.os.length) (width : Int) : allS (swM x y m) s width = allS m s width := by
  rw [Bool.eq_iff_iff, allS_iff, allS_iff]
  have key := wd_swM hx hy (bits_in hs) (fun o ho => (comps_offS hok hs o ho).w0)
  have hxn : x.toNat < m.n.toNat := by omega
  have hyn : y.toNat < m.n.toNat := by omega
  constructor
  · intro h a b ha hb
    rw [← key a b ha hb]
    exact h _ _ (swN_lt hxn hyn ha) (swN_lt hxn hyn hb)
  · intro h a b ha hb
    have := key _ _ (swN_lt hxn hyn ha) (swN_lt hxn hyn hb)
    rw [swN_swN, swN_swN] at this
    rw [show wd (swM x y m).n.toNat (comps (swM x y m) (bits 12 s)) a b = _ from this]
    exact h _ _ (swN_lt hxn hyn ha) (swN_lt hxn hyn hb)
theorem prS_sw (a b : Int) (ha : 0 ≤ a ∧ a < m.n) (hb : 0 ≤ b ∧ b < m.n) : prS (swM x y m) (swI x y a).toNat (swI x y b).toNat (2 ^ (swM x y m).os.length) = prS m a.toNat b.toNat (2 ^ m.os.length) := by
  rw [os_sw]
  unfold prS
  have hw : ∀ s, s < 2 ^ m.os.length → wd (swM x y m).n.toNat (comps (swM x y m) (bits 12 s)) (swI x y a).toNat (swI x y b).toNat = wd m.n.toNat (comps m (bits 12 s)) a.toNat b.toNat := fun s hs => wdS_swM hok hx hy hs ha hb
  have hf : (List.range (2 ^ m.os.length)).filter (fun s => decide (wd (swM x y m).n.toNat (comps (swM x y m) (bits 12 s)) (swI x y a).toNat (swI x y b).toNat < 1099511627776)) = (List.range (2 ^ m.os.length)).filter (fun s => decide (wd m.n.toNat (comps m (bits 12 s)) a.toNat b.toNat < 1099511627776)) :=
    List.filter_congr (fun s hs => by rw [hw s (List.mem_range.1 hs)])
  rw [hf]
  refine List.map_congr_left (fun s hs => ?_)
  have hs' := List.mem_range.1 (List.mem_filter.1 hs).1
  rw [hw s hs']
  exact congrArg (fun z => (z, _)) (cost_sw hs')
theorem frontsF_sw (a b : Int) (ha : 0 ≤ a ∧ a < m.n) (hb : 0 ≤ b ∧ b < m.n) : frontsF (swM x y m) (swI x y a).toNat (swI x y b).toNat = frontsF m a.toNat b.toNat := by
  unfold frontsF; rw [prS_sw hok hx hy a b ha hb]
end
/-- What a table of rows is when two of them have changed places. -/
def exch {α : Type} (F : Nat → α) (x y : Nat) : Nat → α := fun b => if b = y then F x else if b = x then F y else F b
theorem named {m : Mk} {l : List Int} {x y b width : Int} (hask : askedB m l [x, y, b] = true) (h0 : 0 ≤ width) (h1 : width ≤ 16777216) (hxy : x ≠ y) (hby : b ≠ y) :
    ∃ p is bl isb tl ist s one e R R', widthF m l x b = (p, is, 0) ∧ widthF (swM x y m) l y (swI x y b) = (p, is, 0) ∧ bestF m x b width = (bl, isb, 0) ∧ bestF (swM x y m) y (swI x y b) width = (bl, isb, 0) ∧ bl.length ≤ 140737488355328
      ∧ togF m width = (tl, ist, 0) ∧ togF (swM x y m) width = (tl, ist, 0) ∧ tl.length ≤ 140737488355328 ∧ (m.os ≠ [] → priceF m x b width 0 = (s, one, e) ∧ priceF (swM x y m) y (swI x y b) width 0 = (s, one, e))
      ∧ frontsLF m x = ((List.range m.n.toNat).map R, 0) ∧ frontsLF (swM x y m) y = ((List.range m.n.toNat).map R', 0) ∧ (List.range m.n.toNat).map (exch R' x.toNat y.toNat) = (List.range m.n.toNat).map R ∧ (∀ b, (R b).length ≤ 4096) ∧ (∀ b, (R' b).length ≤ 4096) := by
  obtain ⟨_, _, hok, hr, hcl⟩ := asked_yes hask
  have hcl' := clock_bd hcl
  have hx := hcl' x (by simp)
  have hy := hcl' y (by simp)
  have hb := hcl' b (by simp)
  have hok' := swM_ok hok hx hy
  have hsx : swI x y x = y := by simp [swI]
  have hsb := swI_in hx hy hb
  have c1 : [x, b].all (okC m.n) = true := by simp [okC]; omega
  have c2 : [y, swI x y b].all (okC (swM x y m).n) = true := by show [y, swI x y b].all (okC m.n) = true; simp [okC]; omega
  have hr' : right (swM x y m).os.length l = true := by rw [os_sw]; exact hr
  have hb1 : askE m [] [x, b] [width] = 0 := ask_of hok (right_nil _) c1 (size_ok h0 h1)
  have hb2 : askE (swM x y m) [] [y, swI x y b] [width] = 0 := ask_of hok' (right_nil _) c2 (size_ok h0 h1)
  obtain ⟨g1, g2⟩ := set_of hok hr
  have hw : ∀ s, s < 2 ^ m.os.length → wdS (swM x y m) s y (swI x y b) = wdS m s x b := fun s hs => by
    have := wdS_swM hok hx hy hs hx hb
    rw [hsx] at this
    exact this
  have hwl : wdL (swM x y m) l y (swI x y b) = wdL m l x b := by
    have := hw _ g1
    unfold wdS at this
    rw [g2] at this
    exact this
  obtain ⟨p, is, e1, _, _⟩ := width_right (l := l) hok hr c1
  have e1' : widthF (swM x y m) l y (swI x y b) = (p, is, 0) := by
    rw [← e1]
    unfold widthF
    rw [hwl, show askE m l [x, b] [] = 0 from ask_of hok hr c1 rfl, show askE (swM x y m) l [y, swI x y b] [] = 0 from ask_of hok' hr' c2 rfl]
  have el : leastS (swM x y m).os (fun s => decide (wdS (swM x y m) s y (swI x y b) ≤ width)) = leastS m.os (fun s => decide (wdS m s x b ≤ width)) := least_sw (fun s hs => by simp only [hw s hs])
  have ea : leastS (swM x y m).os (fun s => allS (swM x y m) s width) = leastS m.os (fun s => allS m s width) := least_sw (fun s hs => allS_sw hok hx hy hs width)
  have t1 : askE m [] [] [width] = 0 := ask_of hok (right_nil _) rfl (size_ok h0 h1)
  have t2 : askE (swM x y m) [] [] [width] = 0 := ask_of hok' (right_nil _) rfl (size_ok h0 h1)
  have hbest : ∃ bl isb, bestF m x b width = (bl, isb, 0) ∧ bestF (swM x y m) y (swI x y b) width = (bl, isb, 0) ∧ bl.length ≤ 140737488355328 := by
    unfold bestF
    rw [el, hb1, hb2]
    cases leastS m.os (fun s => decide (wdS m s x b ≤ width)) with
    | none => exact ⟨[], false, rfl, rfl, by decide⟩
    | some s => exact ⟨_, true, rfl, rfl, bits_small s⟩
  have htog : ∃ tl ist, togF m width = (tl, ist, 0) ∧ togF (swM x y m) width = (tl, ist, 0) ∧ tl.length ≤ 140737488355328 := by
    unfold togF
    rw [ea, t1, t2]
    cases leastS m.os (fun s => allS m s width) with
    | none => exact ⟨[], false, rfl, rfl, by decide⟩
    | some s => exact ⟨_, true, rfl, rfl, bits_small s⟩
  have hall : wdS (swM x y m) (allN (swM x y m)) y (swI x y b) = wdS m (allN m) x b := by
    have : allN (swM x y m) = allN m := by unfold allN; rw [os_sw]
    rw [this]; exact hw _ (all_lt m)
  have hre : reachE (swM x y m) y (swI x y b) width = reachE m x b width := by unfold reachE; rw [hb1, hb2, hall]
  have hprice : m.os ≠ [] → priceF (swM x y m) y (swI x y b) width 0 = priceF m x b width 0 := by
    intro hne
    have e2 : leastS (swM x y m).os (woP (swM x y m) y (swI x y b) width (0 : Int).toNat) = leastS m.os (woP m x b width (0 : Int).toNat) := least_sw (fun s hs => by unfold woP; rw [hw s hs])
    have e3 : leastS (swM x y m).os (withP (swM x y m) y (swI x y b) width (0 : Int).toNat) = leastS m.os (withP m x b width (0 : Int).toNat) := least_sw (fun s hs => by unfold withP; rw [hw s hs])
    unfold priceF
    rw [hb1, hb2, os_sw, hre, e2, e3, chC_sw]
    cases e : leastS m.os (woP m x b width (0 : Int).toNat) with
    | none => rfl
    | some t => simp only; rw [price_sw e]
  obtain ⟨bl, isb, e2, e3, e4⟩ := hbest
  obtain ⟨tl, ist, e5, e6, e7⟩ := htog
  refine ⟨p, is, bl, isb, tl, ist, (priceF m x b width 0).1, (priceF m x b width 0).2.1, (priceF m x b width 0).2.2, frontsF m x.toNat, frontsF (swM x y m) y.toNat, e1, e1', e2, e3, e4, e5, e6, e7, fun hne => ⟨rfl, hprice hne⟩,
    fronts_is hok (clocks_one c1), fronts_is hok' (clocks_one c2), List.map_congr_left (fun c hc => ?_), fun b => frontsF_len m _ b hok, fun b => frontsF_len _ _ b hok'⟩
  have hc' := List.mem_range.1 hc
  have hcn : (0 : Int) ≤ (c : Int) ∧ (c : Int) < m.n := by omega
  have key := frontsF_sw hok hx hy x (c : Int) hx hcn
  rw [hsx] at key
  have hkey : frontsF (swM x y m) y.toNat (swI x y (c : Int)).toNat = frontsF m x.toNat c := key
  unfold exch
  by_cases h2 : c = y.toNat
  · rw [if_pos h2]
    have : swI x y (c : Int) = x := by unfold swI; rw [if_neg (by omega), if_pos (by omega)]
    rw [this] at hkey
    exact hkey
  · rw [if_neg h2]
    by_cases h3 : c = x.toNat
    · rw [if_pos h3]
      have : swI x y (c : Int) = y := by unfold swI; rw [if_pos (by omega)]
      rw [this] at hkey
      exact hkey
    · rw [if_neg h3]
      have : swI x y (c : Int) = c := by unfold swI; rw [if_neg (by omega), if_neg (by omega)]
      rw [this] at hkey
      exact hkey
end Go.Proofs.Ytjdldmecjhddnaa
