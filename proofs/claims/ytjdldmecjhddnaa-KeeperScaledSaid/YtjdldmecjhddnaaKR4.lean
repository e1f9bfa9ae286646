/- The contract of the reference's widths. -/
import Derived.Test.YtjdldmecjhddnaaKR3
import Derived.Test.YtjdldmecjhddnaaK5
namespace Go.Proofs.Ytjdldmecjhddnaa
open Go.RowKit
set_option linter.unusedVariables false
set_option linter.unusedSimpArgs false

theorem own_free {w : World} {base : Nat} {e : TypeId} {g n cp k : Nat} {vs : List Value} (h : w.ownsRow base e k (.slice (some ⟨g, 0, none⟩) n cp) n vs) (b : Nat) : w.frozen? ⟨g, b, none⟩ = false := by
  rcases h.2 with ⟨h1, _⟩ | ⟨g', cap, cur, e1, _, hh, _⟩
  · cases h1
  · injection e1 with e2 _ _
    injection e2 with e2
    injection e2 with e2
    subst e2
    simp [World.frozen?, hh]
/-- A table whose rows are appended one by one: k rows are there. -/
structure TabA (w : World) (base : Nat) (v : Value) (k n : Nat) (f c : Nat → Nat) (d : Nat → Nat → Int) : Prop where
  own : w.ownsRow base 27 1 v k ((List.range k).map fun a => Value.slice (some ⟨f a, 0, none⟩) n (c a))
  hf : ∀ a, a < k → base ≤ f a ∧ v.ownBlock ≠ some (f a)
  inj : ∀ a b, a < k → b < k → f a = f b → a = b
  cell : ∀ a b, a < k → b < n → w.cell? ⟨f a, b, none⟩ = some (.int .i64 (d a b))
  free : ∀ a b, a < k → b < n → w.frozen? ⟨f a, b, none⟩ = false
theorem TabA.below {w w' : World} {base k n : Nat} {v : Value} {f c : Nat → Nat} {d : Nat → Nat → Int} (h : TabA w base v k n f c d) (hb : Below w.heap.size w w') : TabA w' base v k n f c d :=
  ⟨own_below h.own hb, h.hf, h.inj, fun a b ha hbn => below_cell hb (h.cell a b ha hbn), fun a b ha hbn => (hb.frozen (World.block_lt_of_cell? w _ (h.cell a b ha hbn))).trans (h.free a b ha hbn)⟩
theorem TabA.add {w w' : World} {base b2 k n g cp : Nat} {v v' : Value} {f c : Nat → Nat} {d : Nat → Nat → Int} {xs : List Int} (h : TabA w base v k n f c d) (hn : 0 < n)
    (hr : w.ownsRow b2 3 1 (.slice (some ⟨g, 0, none⟩) n cp) n (xs.map (Value.int .i64))) (hxs : xs.length = n) (hb2 : base ≤ b2) (hne : ∀ a, a < k → f a ≠ g) (hgr : w.grownBy w' v.ownBlock)
    (hown : w'.ownsRow base 27 1 v' (k + 1) (((List.range k).map fun a => Value.slice (some ⟨f a, 0, none⟩) n (c a)) ++ [.slice (some ⟨g, 0, none⟩) n cp])) (hat : v'.ownBlock = v.ownBlock ∨ ∃ q, v'.ownBlock = some q ∧ w.heap.size ≤ q) :
    TabA w' base v' (k + 1) n (updF f k g) (updF c k cp) (fun a b => if a = k then xs.getD b 0 else d a b) := by
  have hvg : v.ownBlock ≠ some g := by
    rcases own_ne h.own hr (by decide) with h1 | h1
    · rw [h1]; simp
    · intro e; exact h1 e
  have hgl := hr.lt g rfl
  have hcg : ∀ b, b < n → w.cell? ⟨g, b, none⟩ = some (.int .i64 (xs.getD b 0)) := fun b hb => by
    have := hr.cells (g := g) rfl b (.int .i64 (xs.getD b 0)) (by rw [List.getElem?_map, List.getElem?_eq_getElem (by omega), List.getD_eq_getElem?_getD, List.getElem?_eq_getElem (by omega)]; rfl)
    simpa [Addr.add_lit] using this
  refine ⟨?_, fun a ha => ?_, fun a b ha hb e => ?_, fun a b ha hb => ?_, fun a b ha hb => ?_⟩
  · rw [List.range_succ, List.map_append]
    have e1 : (List.range k).map (fun a => Value.slice (some ⟨updF f k g a, 0, none⟩) n (updF c k cp a)) = (List.range k).map fun a => Value.slice (some ⟨f a, 0, none⟩) n (c a) := by
      refine List.map_congr_left (fun a ha => ?_)
      have := List.mem_range.1 ha
      unfold updF
      rw [if_neg (by omega), if_neg (by omega)]
    rw [e1]
    simpa [updF] using hown
  · unfold updF
    by_cases e : a = k
    · rw [if_pos e]
      refine ⟨by omega, ?_⟩
      rcases hat with h1 | ⟨q, h1, h2⟩
      · rw [h1]; exact hvg
      · rw [h1]; intro e2; injection e2 with e2; omega
    · rw [if_neg e]
      have h3 := h.hf a (by omega)
      refine ⟨h3.1, ?_⟩
      rcases hat with h1 | ⟨q, h1, h2⟩
      · rw [h1]; exact h3.2
      · rw [h1]; intro e2; injection e2 with e2
        have := World.block_lt_of_cell? w _ (h.cell a 0 (by omega) hn)
        simp at this; omega
  · unfold updF at e
    by_cases ea : a = k <;> by_cases eb : b = k
    · omega
    · rw [if_pos ea, if_neg eb] at e; exact absurd e.symm (hne b (by omega))
    · rw [if_neg ea, if_pos eb] at e; exact absurd e (hne a (by omega))
    · rw [if_neg ea, if_neg eb] at e; exact h.inj a b (by omega) (by omega) e
  · unfold updF
    by_cases e : a = k
    · simp only [if_pos e]
      exact grown_cell hgr (hcg b hb) hvg
    · simp only [if_neg e]
      exact grown_cell hgr (h.cell a b (by omega) hb) (h.hf a (by omega)).2
  · unfold updF
    by_cases e : a = k
    · simp only [if_pos e]
      rw [grown_frozen hgr (World.block_lt_of_cell? w ⟨g, b, none⟩ (hcg b hb)) hvg]
      exact own_free hr b
    · simp only [if_neg e]
      rw [grown_frozen hgr (World.block_lt_of_cell? w ⟨f a, b, none⟩ (h.cell a b (by omega) hb)) (h.hf a (by omega)).2]
      exact h.free a b (by omega) hb
theorem TabA.form {w : World} {base k n : Nat} {v : Value} {f c : Nat → Nat} {d : Nat → Nat → Int} (h : TabA w base v k n f c d) (hk : 0 < k) :
    ∃ g cap, v = .slice (some ⟨g, 0, none⟩) k cap ∧ base ≤ g ∧ (∀ a, a < k → w.cell? ⟨g, a, none⟩ = some (.slice (some ⟨f a, 0, none⟩) n (c a))) := by
  rcases h.own.2 with ⟨rfl, h0⟩ | ⟨g, cap, cur, rfl, hb, _⟩
  · omega
  · refine ⟨g, cap, rfl, hb, fun a ha => ?_⟩
    have := h.own.cells (g := g) rfl a (.slice (some ⟨f a, 0, none⟩) n (c a)) (by rw [List.getElem?_map, List.getElem?_range ha]; rfl)
    simpa [Addr.add_lit] using this
theorem TabA.set {w : World} {base k n : Nat} {v : Value} {f c : Nat → Nat} {d : Nat → Nat → Int} (h : TabA w base v k n f c d) {a b : Nat} (ha : a < k) (hb : b < n) (x : Int) :
    TabA (w.setCell ⟨f a, b, none⟩ (.int .i64 x)) base v k n f c (upd d a b x) :=
  ⟨ownsRow_setCell_other h.own (a := ⟨f a, b, none⟩) (h.hf a ha).2 _, h.hf, h.inj,
    fun i j hi hj => by
      by_cases e : i = a ∧ j = b
      · obtain ⟨rfl, rfl⟩ := e
        rw [World.cell?_setCell_same _ _ _ (h.cell i j hi hj)]; simp [upd]
      · rw [World.cell?_setCell_other]
        · rw [h.cell i j hi hj]; simp [upd, e]
        · intro e2; injection e2 with e3 e4; exact e ⟨h.inj _ _ hi ha e3.symm, e4.symm⟩,
    fun i j hi hj => by simp [h.free i j hi hj]⟩
theorem TabA.congr {w : World} {base k n : Nat} {v : Value} {f c : Nat → Nat} {d e : Nat → Nat → Int} (h : TabA w base v k n f c d) (he : ∀ a b, a < k → b < n → d a b = e a b) : TabA w base v k n f c e :=
  ⟨h.own, h.hf, h.inj, fun a b ha hb => by rw [← he a b ha hb]; exact h.cell a b ha hb, h.free⟩
theorem TabA.done {w : World} {base n : Nat} {v : Value} {f c : Nat → Nat} {d : Nat → Nat → Int} (h : TabA w base v n n f c d) (hn : 0 < n) : ∃ g cap, v = .slice (some ⟨g, 0, none⟩) n cap ∧ TabF w base g f c n d := by
  obtain ⟨g, cap, rfl, hb, hrow⟩ := h.form hn
  exact ⟨g, cap, rfl, hb, fun a ha => ⟨(h.hf a ha).1, fun e => (h.hf a ha).2 (by rw [e]; rfl)⟩, h.inj, hrow, h.cell, h.free⟩
def dg0 : Nat → Nat → Int := fun a b => if a = b then 0 else 1099511627776
theorem stp0_symm (l : List Off) (x y : Nat) : stp0 l x y = stp0 l y x := by
  unfold stp0
  rw [stp_symm l x y]
  by_cases e : x = y
  · subst e; rfl
  · rw [if_neg e, if_neg (fun h => e h.symm)]
theorem stp0_upd {l : List Off} {o : Off} {x y : Nat} {z : Int} (hA : o.A = x) (hB : o.B = y) (hne : x ≠ y) (hz : z = mn (stp0 l x y) o.W) (i j : Nat) : upd (upd (stp0 l) x y z) y x z i j = stp0 (l ++ [o]) i j := by
  have e2 : stp0 l x y = stp l x y := by simp [stp0, hne]
  have h := stp_upd (l := l) hA hB hne z (by rw [hz, e2]; rfl) i j
  by_cases e : i = j
  · subst e
    have e3 : stp0 (l ++ [o]) i i = 0 := by simp [stp0]
    rw [e3]
    unfold upd
    rw [if_neg (by omega), if_neg (by omega)]
    simp [stp0]
  · have e3 : stp0 (l ++ [o]) i j = stp (l ++ [o]) i j := by simp [stp0, e]
    rw [e3, ← h]
    unfold upd
    split
    · rfl
    · split
      · rfl
      · simp [stp0, e]

set_option maxHeartbeats 8000000 in
set_option maxRecDepth 100000 in
theorem r_widths (n : Nat) (l : List Off) (la : Option Addr) (ln lc : Nat) (w : World) (h2 : 2 ≤ n) (h8 : n ≤ 8) (hln : l.length = ln) (hl : RdO w la l) (hll : ln ≤ 100) (hoff : ∀ o ∈ l, isOff o n 10000 = true) :
    Calls Try.prog 93 #[.int .i64 (n : Int), .slice la ln lc] w fun e w' => ∃ v, e = .returned v ∧ Tab w' w.heap.size v n (wd n l) ∧ Below w.heap.size w w' := by
  have HLN := Lib.hid hln
  have HL := Lib.hid hl
  have HOFF := Lib.hid hoff
  clear hln hl hoff
  go_enter Try.func93, Try.ntmps93
  go_wp2_with fail
  go_loopw [5, 6] (fun v i wr => ∃ k : Nat, k ≤ n ∧ i = .int .i64 k ∧ (∃ f c, TabA wr w.heap.size v k n f c dg0) ∧ Below w.heap.size w wr) (fun _ i _ => n - (intOf i).toNat)
  case atStart => exact ⟨0, Nat.zero_le _, rfl, ⟨fun _ => 0, fun _ => 0, World.ownsRow_nil _ _ _ _, fun a h => absurd h (Nat.not_lt_zero _), fun a b h => absurd h (Nat.not_lt_zero _), fun a b h => absurd h (Nat.not_lt_zero _), fun a b h => absurd h (Nat.not_lt_zero _)⟩, Below.refl _ _⟩
  case round =>
    obtain ⟨k, hk, rfl, ⟨f, c, hT⟩, hB⟩ := hrel
    have HT := Lib.hid hT
    clear hT
    by_cases hlt : k < n
    · obtain ⟨wo, rfl⟩ : ∃ wo : World, wo = wr := ⟨_, rfl⟩
      go_wp2_with fail
      go_loopw [7, 8] (fun v i wr => ∃ j : Nat, j ≤ n ∧ i = .int .i64 j ∧ wr.ownsRow wo.heap.size 3 1 v j ((List.replicate j (1099511627776 : Int)).map (Value.int .i64)) ∧ Below wo.heap.size wo wr) (fun _ i _ => n - (intOf i).toNat)
      case atStart => exact ⟨0, Nat.zero_le _, rfl, World.ownsRow_nil _ _ _ _, Below.refl _ _⟩
      case round =>
        obtain ⟨j, hj, rfl, hown, hB2⟩ := hrel
        by_cases hlt2 : j < n
        · go_wp2_with (at_builtin; refine ap1 rfl _ _ 27 rfl wo.heap.size 3 (.int .i64 0) 1 8 info_int Try.underlying27 rfl (by decide) (by decide) _ _ _ rfl hown [.int .i64 1099511627776] rfl rfl rfl (by omega) hB2.size ?_; intro v' w1 hown1 hgr hat hnn)
          go_roundw
          case rel => exact ⟨j + 1, by omega, by go_num, by rw [List.replicate_succ', List.map_append]; exact hown1, hB2.grown hgr hB2.size (fun q e => (hown.lt q e).1)⟩
          case measure => simp [intOf]; omega
        · obtain rfl : j = n := by omega
          obtain ⟨g, cp, rfl⟩ : ∃ g cp, u7 = .slice (some ⟨g, 0, none⟩) j cp := by
            rcases hown.2 with ⟨_, h0⟩ | ⟨g, cap, cur, e, _⟩
            · omega
            · exact ⟨g, cap, e⟩
          have hgl := hown.lt g rfl
          have hT1 := HT.out.below hB2
          have hne : Hid (∀ a, a < k → f a ≠ g) := Lib.hid (fun a ha e => by have := World.block_lt_of_cell? wo _ (HT.out.cell a 0 ha (by omega)); rw [e] at this; simp at this; omega)
          have hkb : k ≤ 8 := by omega
          have hsz0 := Nat.le_trans hB.size hB2.size
          have HT1 := Lib.hid hT1
          have HOWN := Lib.hid hown
          have HBZ := Lib.hid (bthen hB hB2)
          clear hown HT hT1
          go_wp2_with (at_builtin; refine ap1 rfl _ _ 75 rfl w.heap.size 27 (.slice none 0 0) 1 24 info_ints Try.underlying75 rfl (by decide) (by decide) _ _ _ rfl HT1.out.own [.slice (some ⟨g, 0, none⟩) j cp] rfl rfl rfl (by omega) hsz0 ?_; intro v' w4 hown4 hgr hat hnn; have hTA := Lib.hid (HT1.out.add (by omega) HOWN.out (by simp) hB.size hne.out hgr hown4 (hat.imp id (fun e => ⟨_, e, by omega⟩))); have hB4 := Lib.hid (HBZ.out.grown hgr hsz0 (fun q e => (HT1.out.own.lt q e).1)); obtain ⟨g1, cp1, hv', hgb, hrow⟩ := hTA.out.form (by omega); have HV := Lib.hid hv'; subst hv'; have p1 := hrow k (by omega); have p2 := hTA.out.cell k k (by omega) (by omega); have p3 := hTA.out.free k k (by omega) (by omega); clear hrow hgr hown4 hat hnn)
          go_roundw
          case rel =>
            refine ⟨k + 1, by omega, by go_num, ⟨_, _, (hTA.out.set (a := k) (b := k) (by omega) (by omega) 0).congr (fun a b ha hb => ?_)⟩, hB4.out.setCell (hTA.out.hf k (by omega)).1 _⟩
            unfold upd dg0
            by_cases e : a = k
            · subst e
              by_cases e2 : b = a
              · subst e2; simp
              · have e3 : ¬ a = b := fun h => e2 h.symm
                simp [e2, e3, hb]
            · simp [e]
          case measure => simp [intOf]; omega
    · obtain rfl : k = n := by omega
      obtain ⟨g, cap, hv5, hTF⟩ := HT.out.done (by omega)
      have HV5 := Lib.hid hv5
      subst hv5
      clear HT
      have HTF := Lib.hid (hTF.congr (fun a b _ _ => show dg0 a b = stp0 (l.take 0) a b from by simp [dg0, stp0, stp]))
      clear hTF
      go_wp2_with fail
      go_loopw [9] (fun i wr => ∃ q : Nat, q ≤ ln ∧ i = .int .i64 q ∧ TabF wr w.heap.size g f c k (stp0 (l.take q)) ∧ Below w.heap.size w wr) (fun i _ => ln - (intOf i).toNat)
      case atStart => exact ⟨0, Nat.zero_le _, rfl, HTF.out, hB⟩
      case round =>
        clear HTF hB
        obtain ⟨q, hq, rfl, hT, hB⟩ := hrel
        by_cases hlt3 : q < ln
        · obtain ⟨b, off, o, rfl, hx, q0, q1, q2, q3⟩ := (HL.out.below hB).ato (i := q) (by rw [HLN.out]; exact hlt3)
          have hof := isOff_iff (HOFF.out o (List.mem_of_getElem? hx))
          have HX := Lib.hid hx
          clear hx
          obtain ⟨A, B, C, W⟩ := o
          obtain ⟨a0, a1, b0, b1, hne, w0, w1', _, _⟩ := hof
          simp only at q0 q1 q2 q3 a0 a1 b0 b1 hne w0 w1'
          obtain ⟨x, rfl⟩ := Int.eq_ofNat_of_zero_le a0
          obtain ⟨y, rfl⟩ := Int.eq_ofNat_of_zero_le b0
          have hxn : x < k := by omega
          have hyn : y < k := by omega
          have hxy : x ≠ y := by omega
          have i1 : (0 : Int) ≤ (x : Int) := Int.natCast_nonneg _
          have i2 : (0 : Int) ≤ (y : Int) := Int.natCast_nonneg _
          obtain ⟨D, hD⟩ : ∃ D, Hid (D = stp0 (l.take q)) := ⟨_, Lib.hid rfl⟩
          rw [← hD.out] at hT
          have HSY := Lib.hid (show D y x = D x y from by rw [hD.out]; exact stp0_symm _ _ _)
          have HT := Lib.hid hT
          clear a0 b0 hne hT
          by_cases hW : W < D x y
          · go_wp2
            go_quiet (fail)
            obtain ⟨wq, hwq⟩ : ∃ wq, wq = wr.drewN nq := ⟨_, rfl⟩
            rw [← hwq]
            have hT : TabF wq w.heap.size g f c k D := by rw [hwq]; exact HT.out.drewN nq
            have hBq : Below w.heap.size w wq := by rw [hwq]; exact bdrN hB nq
            clear HT hB hwq q0 q1 q2 q3
            have h1 := hT.row x hxn
            have h2' := hT.row y hyn
            have h3 := hT.cell x y hxn hyn
            have h5 := hT.free x y hxn hyn
            have e1 : ¬ f x = g := (hT.hf x hxn).2
            have e2 : ¬ f y = g := (hT.hf y hyn).2
            have e5 : ¬ f x = f y := fun e => hxy (hT.inj _ _ hxn hyn e)
            have hs1 := Lib.hid (show (fun w' : World => w'.cell? ⟨g, x, none⟩ = some (.slice (some ⟨f x, 0, none⟩) k (c x)) ∧ w'.cell? ⟨f x, y, none⟩ = some (.int .i64 (D x y))) wq.drew from ⟨cdw h1, cdw h3⟩)
            have HT := Lib.hid (hT.set hxn hyn (W))
            have HBq := Lib.hid (hBq.setCell (p := ⟨f x, y, none⟩) (hT.hf x hxn).1 (.int .i64 (W)))
            clear hT hBq
            go_wp2
            refine till_region (T := Till2 [15] (fun w' : World => w'.cell? ⟨g, x, none⟩ = some (.slice (some ⟨f x, 0, none⟩) k (c x)) ∧ w'.cell? ⟨f x, y, none⟩ = some (.int .i64 (D x y))) [15] (fun _ : World => True)) (by kernel_rfl) ⟨till_hold hs1.out, till_hold trivial⟩ (fun _ => ?_)
            refine till_take1 (i := 0) (v := ?vda0) rfl (by kernel_rfl) (by kernel_rfl) (by kernel_rfl) (by kernel_rfl) (by kernel_rfl) (by kernel_rfl) (by kernel_rfl) (fun _ _ _ h => h) (Or.inl ⟨by rfl, ?yda0⟩) ⟨till_hold hs1.out, till_hold trivial⟩ (fun _ => ?rda0)
            case yda0 => (intro wS hSw; (try dsimp only at hSw); go_split_ands; go_simp <;> with_reducible rfl)
            (try simp only [Act.put, List.setIfInBounds_toArray, List.set_cons_zero, List.set_cons_succ])
            refine till_take1 (i := 1) (v := ?vda1) rfl (by kernel_rfl) (by kernel_rfl) (by kernel_rfl) (by kernel_rfl) (by kernel_rfl) (by kernel_rfl) (by kernel_rfl) (fun _ _ _ h => h) (Or.inl ⟨by rfl, ?yda1⟩) ⟨till_hold hs1.out, till_hold trivial⟩ (fun _ => ?rda1)
            case yda1 => (intro wS hSw; (try dsimp only at hSw); go_split_ands; go_simp <;> with_reducible rfl)
            (try simp only [Act.put, List.setIfInBounds_toArray, List.set_cons_zero, List.set_cons_succ])
            refine till_take1 (i := 2) (v := ?vda2) rfl (by kernel_rfl) (by kernel_rfl) (by kernel_rfl) (by kernel_rfl) (by kernel_rfl) (by kernel_rfl) (by kernel_rfl) (fun _ _ _ h => h) (Or.inl ⟨by rfl, ?yda2⟩) ⟨till_hold hs1.out, till_hold trivial⟩ (fun _ => ?rda2)
            case yda2 => (intro wS hSw; (try dsimp only at hSw); go_split_ands; go_simp <;> with_reducible rfl)
            (try simp only [Act.put, List.setIfInBounds_toArray, List.set_cons_zero, List.set_cons_succ])
            refine till_take1 (i := 3) (v := ?vda3) rfl (by kernel_rfl) (by kernel_rfl) (by kernel_rfl) (by kernel_rfl) (by kernel_rfl) (by kernel_rfl) (by kernel_rfl) (fun _ _ _ h => h) (Or.inl ⟨by rfl, ?yda3⟩) ⟨till_hold hs1.out, till_hold trivial⟩ (fun _ => ?rda3)
            case yda3 => (intro wS hSw; (try dsimp only at hSw); go_split_ands; go_simp <;> with_reducible rfl)
            (try simp only [Act.put, List.setIfInBounds_toArray, List.set_cons_zero, List.set_cons_succ])
            refine till_take1 (i := 4) (v := ?vda4) rfl (by kernel_rfl) (by kernel_rfl) (by kernel_rfl) (by kernel_rfl) (by kernel_rfl) (by kernel_rfl) (by kernel_rfl) (fun _ _ _ h => h) (Or.inl ⟨by rfl, ?yda4⟩) ⟨till_hold hs1.out, till_hold trivial⟩ (fun _ => ?rda4)
            case yda4 => (intro wS hSw; (try dsimp only at hSw); go_split_ands; go_simp <;> with_reducible rfl)
            (try simp only [Act.put, List.setIfInBounds_toArray, List.set_cons_zero, List.set_cons_succ])
            refine till_take1 (i := 5) (v := ?vda5) rfl (by kernel_rfl) (by kernel_rfl) (by kernel_rfl) (by kernel_rfl) (by kernel_rfl) (by kernel_rfl) (by kernel_rfl) (fun _ _ _ h => h) (Or.inl ⟨by rfl, ?yda5⟩) ⟨till_hold hs1.out, till_hold trivial⟩ (fun _ => ?rda5)
            case yda5 => (intro wS hSw; (try dsimp only at hSw); go_split_ands; go_simp <;> with_reducible rfl)
            (try simp only [Act.put, List.setIfInBounds_toArray, List.set_cons_zero, List.set_cons_succ])
            refine till_take1 (i := 6) (v := ?vda6) rfl (by kernel_rfl) (by kernel_rfl) (by kernel_rfl) (by kernel_rfl) (by kernel_rfl) (by kernel_rfl) (by kernel_rfl) (fun _ _ _ h => h) (Or.inl ⟨by rfl, ?yda6⟩) ⟨till_hold hs1.out, till_hold trivial⟩ (fun _ => ?rda6)
            case yda6 => (intro wS hSw; (try dsimp only at hSw); go_split_ands; go_simp <;> with_reducible rfl)
            (try simp only [Act.put, List.setIfInBounds_toArray, List.set_cons_zero, List.set_cons_succ])
            refine till_take1 (i := 7) (v := ?vda7) rfl (by kernel_rfl) (by kernel_rfl) (by kernel_rfl) (by kernel_rfl) (by kernel_rfl) (by kernel_rfl) (by kernel_rfl) (fun _ _ _ h => h) (Or.inl ⟨by rfl, ?yda7⟩) ⟨till_hold hs1.out, till_hold trivial⟩ (fun _ => ?rda7)
            case yda7 => (intro wS hSw; (try dsimp only at hSw); go_split_ands; go_simp <;> with_reducible rfl)
            (try simp only [Act.put, List.setIfInBounds_toArray, List.set_cons_zero, List.set_cons_succ])
            refine till_take1 (i := 8) (v := ?vda8) rfl (by kernel_rfl) (by kernel_rfl) (by kernel_rfl) (by kernel_rfl) (by kernel_rfl) (by kernel_rfl) (by kernel_rfl) (fun _ _ _ h => h) (Or.inl ⟨by rfl, ?yda8⟩) ⟨till_hold hs1.out, till_hold trivial⟩ (fun _ => ?rda8)
            case yda8 => (intro wS hSw; (try dsimp only at hSw); go_split_ands; go_simp <;> with_reducible rfl)
            (try simp only [Act.put, List.setIfInBounds_toArray, List.set_cons_zero, List.set_cons_succ])
            refine till_take1 (i := 9) (v := ?vda9) rfl (by kernel_rfl) (by kernel_rfl) (by kernel_rfl) (by kernel_rfl) (by kernel_rfl) (by kernel_rfl) (by kernel_rfl) (fun _ _ _ h => h) (Or.inl ⟨by rfl, ?yda9⟩) ⟨till_hold hs1.out, till_hold trivial⟩ (fun _ => ?rda9)
            case yda9 => (intro wS hSw; (try dsimp only at hSw); go_split_ands; go_simp <;> with_reducible rfl)
            (try simp only [Act.put, List.setIfInBounds_toArray, List.set_cons_zero, List.set_cons_succ])
            refine till_take1 (i := 10) (v := ?vda10) rfl (by kernel_rfl) (by kernel_rfl) (by kernel_rfl) (by kernel_rfl) (by kernel_rfl) (by kernel_rfl) (by kernel_rfl) (fun _ _ _ h => h) (Or.inl ⟨by rfl, ?yda10⟩) ⟨till_hold hs1.out, till_hold trivial⟩ (fun _ => ?rda10)
            case yda10 => (intro wS hSw; (try dsimp only at hSw); go_split_ands; go_simp <;> with_reducible rfl)
            (try simp only [Act.put, List.setIfInBounds_toArray, List.set_cons_zero, List.set_cons_succ])
            refine till_take1 (i := 11) (v := ?vda11) rfl (by kernel_rfl) (by kernel_rfl) (by kernel_rfl) (by kernel_rfl) (by kernel_rfl) (by kernel_rfl) (by kernel_rfl) (fun _ _ _ h => h) (Or.inl ⟨by rfl, ?yda11⟩) ⟨till_hold hs1.out, till_hold trivial⟩ (fun _ => ?rda11)
            case yda11 => (intro wS hSw; (try dsimp only at hSw); go_split_ands; go_simp <;> with_reducible rfl)
            (try simp only [Act.put, List.setIfInBounds_toArray, List.set_cons_zero, List.set_cons_succ])
            refine till_take1 (i := 12) (v := ?vda12) rfl (by kernel_rfl) (by kernel_rfl) (by kernel_rfl) (by kernel_rfl) (by kernel_rfl) (by kernel_rfl) (by kernel_rfl) (fun _ _ _ h => h) (Or.inl ⟨by rfl, ?yda12⟩) ⟨till_hold hs1.out, till_hold trivial⟩ (fun _ => ?rda12)
            case yda12 => (intro wS hSw; (try dsimp only at hSw); go_split_ands; go_simp <;> with_reducible rfl)
            (try simp only [Act.put, List.setIfInBounds_toArray, List.set_cons_zero, List.set_cons_succ])
            refine till_take1 (i := 13) (v := ?vda13) rfl (by kernel_rfl) (by kernel_rfl) (by kernel_rfl) (by kernel_rfl) (by kernel_rfl) (by kernel_rfl) (by kernel_rfl) (fun _ _ _ h => h) (Or.inl ⟨by rfl, ?yda13⟩) ⟨till_hold hs1.out, till_hold trivial⟩ (fun _ => ?rda13)
            case yda13 => (intro wS hSw; (try dsimp only at hSw); go_split_ands; go_simp <;> with_reducible rfl)
            (try simp only [Act.put, List.setIfInBounds_toArray, List.set_cons_zero, List.set_cons_succ])
            refine till_take1 (i := 14) (v := ?vda14) rfl (by kernel_rfl) (by kernel_rfl) (by kernel_rfl) (by kernel_rfl) (by kernel_rfl) (by kernel_rfl) (by kernel_rfl) (fun _ _ _ h => h) (Or.inl ⟨by rfl, ?yda14⟩) ⟨till_hold hs1.out, till_hold trivial⟩ (fun _ => ?rda14)
            case yda14 => (intro wS hSw; (try dsimp only at hSw); go_split_ands; go_simp <;> with_reducible rfl)
            (try simp only [Act.put, List.setIfInBounds_toArray, List.set_cons_zero, List.set_cons_succ])
            refine till_ready (i := 15) (o := _) (by kernel_rfl) rfl (fun K hK => ?_)
            go_simp
            refine hK.out _ _ ⟨till_gone (by kernel_rfl), till_gone (by kernel_rfl)⟩ ?_
            clear hK K
            (try simp only [Act.put, List.setIfInBounds_toArray, List.set_cons_zero, List.set_cons_succ])
            refine till_done (by kernel_rfl) ?_ _
            go_wp2
            obtain ⟨wz, hwz⟩ : ∃ wz, wz = (wq.setCell ⟨f x, y, none⟩ (.int .i64 (W))).drew := ⟨_, rfl⟩
            rw [← hwz]
            have hT : TabF wz w.heap.size g f c k (upd D x y (W)) := by rw [hwz]; exact HT.out.drewN 1
            have hBz : Below w.heap.size w wz := by rw [hwz]; exact HBq.out.drew
            clear HT HBq hwz h1 h2' h3 h5 hs1
            have h1 := hT.row y hyn
            have h3 := hT.cell y x hyn hxn
            have h3' : upd D x y (W) y x = D x y := by unfold upd; rw [if_neg (by omega)]; exact HSY.out
            rw [h3'] at h3
            have h5 := hT.free y x hyn hxn
            clear h3'
            have hs1 := Lib.hid (show (fun w' : World => w'.cell? ⟨g, y, none⟩ = some (.slice (some ⟨f y, 0, none⟩) k (c y)) ∧ w'.cell? ⟨f y, x, none⟩ = some (.int .i64 (D x y))) wz.drew from ⟨cdw h1, cdw h3⟩)
            have HT := Lib.hid (hT.set hyn hxn (W))
            have HBz := Lib.hid (hBz.setCell (p := ⟨f y, x, none⟩) (hT.hf y hyn).1 (.int .i64 (W)))
            clear hT hBz
            refine till_region (T := Till2 [15] (fun w' : World => w'.cell? ⟨g, y, none⟩ = some (.slice (some ⟨f y, 0, none⟩) k (c y)) ∧ w'.cell? ⟨f y, x, none⟩ = some (.int .i64 (D x y))) [15] (fun _ : World => True)) (by kernel_rfl) ⟨till_hold hs1.out, till_hold trivial⟩ (fun _ => ?_)
            refine till_take1 (i := 0) (v := ?vea0) rfl (by kernel_rfl) (by kernel_rfl) (by kernel_rfl) (by kernel_rfl) (by kernel_rfl) (by kernel_rfl) (by kernel_rfl) (fun _ _ _ h => h) (Or.inl ⟨by rfl, ?yea0⟩) ⟨till_hold hs1.out, till_hold trivial⟩ (fun _ => ?rea0)
            case yea0 => (intro wS hSw; (try dsimp only at hSw); go_split_ands; go_simp <;> with_reducible rfl)
            (try simp only [Act.put, List.setIfInBounds_toArray, List.set_cons_zero, List.set_cons_succ])
            refine till_take1 (i := 1) (v := ?vea1) rfl (by kernel_rfl) (by kernel_rfl) (by kernel_rfl) (by kernel_rfl) (by kernel_rfl) (by kernel_rfl) (by kernel_rfl) (fun _ _ _ h => h) (Or.inl ⟨by rfl, ?yea1⟩) ⟨till_hold hs1.out, till_hold trivial⟩ (fun _ => ?rea1)
            case yea1 => (intro wS hSw; (try dsimp only at hSw); go_split_ands; go_simp <;> with_reducible rfl)
            (try simp only [Act.put, List.setIfInBounds_toArray, List.set_cons_zero, List.set_cons_succ])
            refine till_take1 (i := 2) (v := ?vea2) rfl (by kernel_rfl) (by kernel_rfl) (by kernel_rfl) (by kernel_rfl) (by kernel_rfl) (by kernel_rfl) (by kernel_rfl) (fun _ _ _ h => h) (Or.inl ⟨by rfl, ?yea2⟩) ⟨till_hold hs1.out, till_hold trivial⟩ (fun _ => ?rea2)
            case yea2 => (intro wS hSw; (try dsimp only at hSw); go_split_ands; go_simp <;> with_reducible rfl)
            (try simp only [Act.put, List.setIfInBounds_toArray, List.set_cons_zero, List.set_cons_succ])
            refine till_take1 (i := 3) (v := ?vea3) rfl (by kernel_rfl) (by kernel_rfl) (by kernel_rfl) (by kernel_rfl) (by kernel_rfl) (by kernel_rfl) (by kernel_rfl) (fun _ _ _ h => h) (Or.inl ⟨by rfl, ?yea3⟩) ⟨till_hold hs1.out, till_hold trivial⟩ (fun _ => ?rea3)
            case yea3 => (intro wS hSw; (try dsimp only at hSw); go_split_ands; go_simp <;> with_reducible rfl)
            (try simp only [Act.put, List.setIfInBounds_toArray, List.set_cons_zero, List.set_cons_succ])
            refine till_take1 (i := 4) (v := ?vea4) rfl (by kernel_rfl) (by kernel_rfl) (by kernel_rfl) (by kernel_rfl) (by kernel_rfl) (by kernel_rfl) (by kernel_rfl) (fun _ _ _ h => h) (Or.inl ⟨by rfl, ?yea4⟩) ⟨till_hold hs1.out, till_hold trivial⟩ (fun _ => ?rea4)
            case yea4 => (intro wS hSw; (try dsimp only at hSw); go_split_ands; go_simp <;> with_reducible rfl)
            (try simp only [Act.put, List.setIfInBounds_toArray, List.set_cons_zero, List.set_cons_succ])
            refine till_take1 (i := 5) (v := ?vea5) rfl (by kernel_rfl) (by kernel_rfl) (by kernel_rfl) (by kernel_rfl) (by kernel_rfl) (by kernel_rfl) (by kernel_rfl) (fun _ _ _ h => h) (Or.inl ⟨by rfl, ?yea5⟩) ⟨till_hold hs1.out, till_hold trivial⟩ (fun _ => ?rea5)
            case yea5 => (intro wS hSw; (try dsimp only at hSw); go_split_ands; go_simp <;> with_reducible rfl)
            (try simp only [Act.put, List.setIfInBounds_toArray, List.set_cons_zero, List.set_cons_succ])
            refine till_take1 (i := 6) (v := ?vea6) rfl (by kernel_rfl) (by kernel_rfl) (by kernel_rfl) (by kernel_rfl) (by kernel_rfl) (by kernel_rfl) (by kernel_rfl) (fun _ _ _ h => h) (Or.inl ⟨by rfl, ?yea6⟩) ⟨till_hold hs1.out, till_hold trivial⟩ (fun _ => ?rea6)
            case yea6 => (intro wS hSw; (try dsimp only at hSw); go_split_ands; go_simp <;> with_reducible rfl)
            (try simp only [Act.put, List.setIfInBounds_toArray, List.set_cons_zero, List.set_cons_succ])
            refine till_take1 (i := 7) (v := ?vea7) rfl (by kernel_rfl) (by kernel_rfl) (by kernel_rfl) (by kernel_rfl) (by kernel_rfl) (by kernel_rfl) (by kernel_rfl) (fun _ _ _ h => h) (Or.inl ⟨by rfl, ?yea7⟩) ⟨till_hold hs1.out, till_hold trivial⟩ (fun _ => ?rea7)
            case yea7 => (intro wS hSw; (try dsimp only at hSw); go_split_ands; go_simp <;> with_reducible rfl)
            (try simp only [Act.put, List.setIfInBounds_toArray, List.set_cons_zero, List.set_cons_succ])
            refine till_take1 (i := 8) (v := ?vea8) rfl (by kernel_rfl) (by kernel_rfl) (by kernel_rfl) (by kernel_rfl) (by kernel_rfl) (by kernel_rfl) (by kernel_rfl) (fun _ _ _ h => h) (Or.inl ⟨by rfl, ?yea8⟩) ⟨till_hold hs1.out, till_hold trivial⟩ (fun _ => ?rea8)
            case yea8 => (intro wS hSw; (try dsimp only at hSw); go_split_ands; go_simp <;> with_reducible rfl)
            (try simp only [Act.put, List.setIfInBounds_toArray, List.set_cons_zero, List.set_cons_succ])
            refine till_take1 (i := 9) (v := ?vea9) rfl (by kernel_rfl) (by kernel_rfl) (by kernel_rfl) (by kernel_rfl) (by kernel_rfl) (by kernel_rfl) (by kernel_rfl) (fun _ _ _ h => h) (Or.inl ⟨by rfl, ?yea9⟩) ⟨till_hold hs1.out, till_hold trivial⟩ (fun _ => ?rea9)
            case yea9 => (intro wS hSw; (try dsimp only at hSw); go_split_ands; go_simp <;> with_reducible rfl)
            (try simp only [Act.put, List.setIfInBounds_toArray, List.set_cons_zero, List.set_cons_succ])
            refine till_take1 (i := 10) (v := ?vea10) rfl (by kernel_rfl) (by kernel_rfl) (by kernel_rfl) (by kernel_rfl) (by kernel_rfl) (by kernel_rfl) (by kernel_rfl) (fun _ _ _ h => h) (Or.inl ⟨by rfl, ?yea10⟩) ⟨till_hold hs1.out, till_hold trivial⟩ (fun _ => ?rea10)
            case yea10 => (intro wS hSw; (try dsimp only at hSw); go_split_ands; go_simp <;> with_reducible rfl)
            (try simp only [Act.put, List.setIfInBounds_toArray, List.set_cons_zero, List.set_cons_succ])
            refine till_take1 (i := 11) (v := ?vea11) rfl (by kernel_rfl) (by kernel_rfl) (by kernel_rfl) (by kernel_rfl) (by kernel_rfl) (by kernel_rfl) (by kernel_rfl) (fun _ _ _ h => h) (Or.inl ⟨by rfl, ?yea11⟩) ⟨till_hold hs1.out, till_hold trivial⟩ (fun _ => ?rea11)
            case yea11 => (intro wS hSw; (try dsimp only at hSw); go_split_ands; go_simp <;> with_reducible rfl)
            (try simp only [Act.put, List.setIfInBounds_toArray, List.set_cons_zero, List.set_cons_succ])
            refine till_take1 (i := 12) (v := ?vea12) rfl (by kernel_rfl) (by kernel_rfl) (by kernel_rfl) (by kernel_rfl) (by kernel_rfl) (by kernel_rfl) (by kernel_rfl) (fun _ _ _ h => h) (Or.inl ⟨by rfl, ?yea12⟩) ⟨till_hold hs1.out, till_hold trivial⟩ (fun _ => ?rea12)
            case yea12 => (intro wS hSw; (try dsimp only at hSw); go_split_ands; go_simp <;> with_reducible rfl)
            (try simp only [Act.put, List.setIfInBounds_toArray, List.set_cons_zero, List.set_cons_succ])
            refine till_take1 (i := 13) (v := ?vea13) rfl (by kernel_rfl) (by kernel_rfl) (by kernel_rfl) (by kernel_rfl) (by kernel_rfl) (by kernel_rfl) (by kernel_rfl) (fun _ _ _ h => h) (Or.inl ⟨by rfl, ?yea13⟩) ⟨till_hold hs1.out, till_hold trivial⟩ (fun _ => ?rea13)
            case yea13 => (intro wS hSw; (try dsimp only at hSw); go_split_ands; go_simp <;> with_reducible rfl)
            (try simp only [Act.put, List.setIfInBounds_toArray, List.set_cons_zero, List.set_cons_succ])
            refine till_take1 (i := 14) (v := ?vea14) rfl (by kernel_rfl) (by kernel_rfl) (by kernel_rfl) (by kernel_rfl) (by kernel_rfl) (by kernel_rfl) (by kernel_rfl) (fun _ _ _ h => h) (Or.inl ⟨by rfl, ?yea14⟩) ⟨till_hold hs1.out, till_hold trivial⟩ (fun _ => ?rea14)
            case yea14 => (intro wS hSw; (try dsimp only at hSw); go_split_ands; go_simp <;> with_reducible rfl)
            (try simp only [Act.put, List.setIfInBounds_toArray, List.set_cons_zero, List.set_cons_succ])
            refine till_ready (i := 15) (o := _) (by kernel_rfl) rfl (fun K hK => ?_)
            go_simp
            refine hK.out _ _ ⟨till_gone (by kernel_rfl), till_gone (by kernel_rfl)⟩ ?_
            clear hK K
            (try simp only [Act.put, List.setIfInBounds_toArray, List.set_cons_zero, List.set_cons_succ])
            refine till_done (by kernel_rfl) ?_ _
            go_wp2
            go_roundw
            case rel =>
              refine ⟨q + 1, by omega, by go_num, (HT.out.drewN 1).congr (fun i j _ _ => ?_), HBz.out.drew⟩
              rw [take_snoc HX.out, hD.out]
              exact stp0_upd (o := ⟨x, y, C, W⟩) rfl rfl hxy (by rw [← hD.out]; exact (mn_lt hW).symm) i j
            case measure => simp [intOf]; omega
          · go_wp2
            go_quiet (fail)
            obtain ⟨wq, hwq⟩ : ∃ wq, wq = wr.drewN nq := ⟨_, rfl⟩
            rw [← hwq]
            have hT : TabF wq w.heap.size g f c k D := by rw [hwq]; exact HT.out.drewN nq
            have hBq : Below w.heap.size w wq := by rw [hwq]; exact bdrN hB nq
            clear HT hB hwq q0 q1 q2 q3
            have h1 := hT.row x hxn
            have h2' := hT.row y hyn
            have h3 := hT.cell x y hxn hyn
            have h5 := hT.free x y hxn hyn
            have e1 : ¬ f x = g := (hT.hf x hxn).2
            have e2 : ¬ f y = g := (hT.hf y hyn).2
            have e5 : ¬ f x = f y := fun e => hxy (hT.inj _ _ hxn hyn e)
            have hs1 := Lib.hid (show (fun w' : World => w'.cell? ⟨g, x, none⟩ = some (.slice (some ⟨f x, 0, none⟩) k (c x)) ∧ w'.cell? ⟨f x, y, none⟩ = some (.int .i64 (D x y))) wq.drew from ⟨cdw h1, cdw h3⟩)
            have HT := Lib.hid (hT.set hxn hyn (D x y))
            have HBq := Lib.hid (hBq.setCell (p := ⟨f x, y, none⟩) (hT.hf x hxn).1 (.int .i64 (D x y)))
            clear hT hBq
            go_wp2
            refine till_region (T := Till2 [15] (fun w' : World => w'.cell? ⟨g, x, none⟩ = some (.slice (some ⟨f x, 0, none⟩) k (c x)) ∧ w'.cell? ⟨f x, y, none⟩ = some (.int .i64 (D x y))) [15] (fun _ : World => True)) (by kernel_rfl) ⟨till_hold hs1.out, till_hold trivial⟩ (fun _ => ?_)
            refine till_take1 (i := 0) (v := ?vdb0) rfl (by kernel_rfl) (by kernel_rfl) (by kernel_rfl) (by kernel_rfl) (by kernel_rfl) (by kernel_rfl) (by kernel_rfl) (fun _ _ _ h => h) (Or.inl ⟨by rfl, ?ydb0⟩) ⟨till_hold hs1.out, till_hold trivial⟩ (fun _ => ?rdb0)
            case ydb0 => (intro wS hSw; (try dsimp only at hSw); go_split_ands; go_simp <;> with_reducible rfl)
            (try simp only [Act.put, List.setIfInBounds_toArray, List.set_cons_zero, List.set_cons_succ])
            refine till_take1 (i := 1) (v := ?vdb1) rfl (by kernel_rfl) (by kernel_rfl) (by kernel_rfl) (by kernel_rfl) (by kernel_rfl) (by kernel_rfl) (by kernel_rfl) (fun _ _ _ h => h) (Or.inl ⟨by rfl, ?ydb1⟩) ⟨till_hold hs1.out, till_hold trivial⟩ (fun _ => ?rdb1)
            case ydb1 => (intro wS hSw; (try dsimp only at hSw); go_split_ands; go_simp <;> with_reducible rfl)
            (try simp only [Act.put, List.setIfInBounds_toArray, List.set_cons_zero, List.set_cons_succ])
            refine till_take1 (i := 2) (v := ?vdb2) rfl (by kernel_rfl) (by kernel_rfl) (by kernel_rfl) (by kernel_rfl) (by kernel_rfl) (by kernel_rfl) (by kernel_rfl) (fun _ _ _ h => h) (Or.inl ⟨by rfl, ?ydb2⟩) ⟨till_hold hs1.out, till_hold trivial⟩ (fun _ => ?rdb2)
            case ydb2 => (intro wS hSw; (try dsimp only at hSw); go_split_ands; go_simp <;> with_reducible rfl)
            (try simp only [Act.put, List.setIfInBounds_toArray, List.set_cons_zero, List.set_cons_succ])
            refine till_take1 (i := 3) (v := ?vdb3) rfl (by kernel_rfl) (by kernel_rfl) (by kernel_rfl) (by kernel_rfl) (by kernel_rfl) (by kernel_rfl) (by kernel_rfl) (fun _ _ _ h => h) (Or.inl ⟨by rfl, ?ydb3⟩) ⟨till_hold hs1.out, till_hold trivial⟩ (fun _ => ?rdb3)
            case ydb3 => (intro wS hSw; (try dsimp only at hSw); go_split_ands; go_simp <;> with_reducible rfl)
            (try simp only [Act.put, List.setIfInBounds_toArray, List.set_cons_zero, List.set_cons_succ])
            refine till_take1 (i := 4) (v := ?vdb4) rfl (by kernel_rfl) (by kernel_rfl) (by kernel_rfl) (by kernel_rfl) (by kernel_rfl) (by kernel_rfl) (by kernel_rfl) (fun _ _ _ h => h) (Or.inl ⟨by rfl, ?ydb4⟩) ⟨till_hold hs1.out, till_hold trivial⟩ (fun _ => ?rdb4)
            case ydb4 => (intro wS hSw; (try dsimp only at hSw); go_split_ands; go_simp <;> with_reducible rfl)
            (try simp only [Act.put, List.setIfInBounds_toArray, List.set_cons_zero, List.set_cons_succ])
            refine till_take1 (i := 5) (v := ?vdb5) rfl (by kernel_rfl) (by kernel_rfl) (by kernel_rfl) (by kernel_rfl) (by kernel_rfl) (by kernel_rfl) (by kernel_rfl) (fun _ _ _ h => h) (Or.inl ⟨by rfl, ?ydb5⟩) ⟨till_hold hs1.out, till_hold trivial⟩ (fun _ => ?rdb5)
            case ydb5 => (intro wS hSw; (try dsimp only at hSw); go_split_ands; go_simp <;> with_reducible rfl)
            (try simp only [Act.put, List.setIfInBounds_toArray, List.set_cons_zero, List.set_cons_succ])
            refine till_take1 (i := 6) (v := ?vdb6) rfl (by kernel_rfl) (by kernel_rfl) (by kernel_rfl) (by kernel_rfl) (by kernel_rfl) (by kernel_rfl) (by kernel_rfl) (fun _ _ _ h => h) (Or.inl ⟨by rfl, ?ydb6⟩) ⟨till_hold hs1.out, till_hold trivial⟩ (fun _ => ?rdb6)
            case ydb6 => (intro wS hSw; (try dsimp only at hSw); go_split_ands; go_simp <;> with_reducible rfl)
            (try simp only [Act.put, List.setIfInBounds_toArray, List.set_cons_zero, List.set_cons_succ])
            refine till_take1 (i := 7) (v := ?vdb7) rfl (by kernel_rfl) (by kernel_rfl) (by kernel_rfl) (by kernel_rfl) (by kernel_rfl) (by kernel_rfl) (by kernel_rfl) (fun _ _ _ h => h) (Or.inl ⟨by rfl, ?ydb7⟩) ⟨till_hold hs1.out, till_hold trivial⟩ (fun _ => ?rdb7)
            case ydb7 => (intro wS hSw; (try dsimp only at hSw); go_split_ands; go_simp <;> with_reducible rfl)
            (try simp only [Act.put, List.setIfInBounds_toArray, List.set_cons_zero, List.set_cons_succ])
            refine till_take1 (i := 8) (v := ?vdb8) rfl (by kernel_rfl) (by kernel_rfl) (by kernel_rfl) (by kernel_rfl) (by kernel_rfl) (by kernel_rfl) (by kernel_rfl) (fun _ _ _ h => h) (Or.inl ⟨by rfl, ?ydb8⟩) ⟨till_hold hs1.out, till_hold trivial⟩ (fun _ => ?rdb8)
            case ydb8 => (intro wS hSw; (try dsimp only at hSw); go_split_ands; go_simp <;> with_reducible rfl)
            (try simp only [Act.put, List.setIfInBounds_toArray, List.set_cons_zero, List.set_cons_succ])
            refine till_take1 (i := 9) (v := ?vdb9) rfl (by kernel_rfl) (by kernel_rfl) (by kernel_rfl) (by kernel_rfl) (by kernel_rfl) (by kernel_rfl) (by kernel_rfl) (fun _ _ _ h => h) (Or.inl ⟨by rfl, ?ydb9⟩) ⟨till_hold hs1.out, till_hold trivial⟩ (fun _ => ?rdb9)
            case ydb9 => (intro wS hSw; (try dsimp only at hSw); go_split_ands; go_simp <;> with_reducible rfl)
            (try simp only [Act.put, List.setIfInBounds_toArray, List.set_cons_zero, List.set_cons_succ])
            refine till_take1 (i := 10) (v := ?vdb10) rfl (by kernel_rfl) (by kernel_rfl) (by kernel_rfl) (by kernel_rfl) (by kernel_rfl) (by kernel_rfl) (by kernel_rfl) (fun _ _ _ h => h) (Or.inl ⟨by rfl, ?ydb10⟩) ⟨till_hold hs1.out, till_hold trivial⟩ (fun _ => ?rdb10)
            case ydb10 => (intro wS hSw; (try dsimp only at hSw); go_split_ands; go_simp <;> with_reducible rfl)
            (try simp only [Act.put, List.setIfInBounds_toArray, List.set_cons_zero, List.set_cons_succ])
            refine till_take1 (i := 11) (v := ?vdb11) rfl (by kernel_rfl) (by kernel_rfl) (by kernel_rfl) (by kernel_rfl) (by kernel_rfl) (by kernel_rfl) (by kernel_rfl) (fun _ _ _ h => h) (Or.inl ⟨by rfl, ?ydb11⟩) ⟨till_hold hs1.out, till_hold trivial⟩ (fun _ => ?rdb11)
            case ydb11 => (intro wS hSw; (try dsimp only at hSw); go_split_ands; go_simp <;> with_reducible rfl)
            (try simp only [Act.put, List.setIfInBounds_toArray, List.set_cons_zero, List.set_cons_succ])
            refine till_take1 (i := 12) (v := ?vdb12) rfl (by kernel_rfl) (by kernel_rfl) (by kernel_rfl) (by kernel_rfl) (by kernel_rfl) (by kernel_rfl) (by kernel_rfl) (fun _ _ _ h => h) (Or.inl ⟨by rfl, ?ydb12⟩) ⟨till_hold hs1.out, till_hold trivial⟩ (fun _ => ?rdb12)
            case ydb12 => (intro wS hSw; (try dsimp only at hSw); go_split_ands; go_simp <;> with_reducible rfl)
            (try simp only [Act.put, List.setIfInBounds_toArray, List.set_cons_zero, List.set_cons_succ])
            refine till_take1 (i := 13) (v := ?vdb13) rfl (by kernel_rfl) (by kernel_rfl) (by kernel_rfl) (by kernel_rfl) (by kernel_rfl) (by kernel_rfl) (by kernel_rfl) (fun _ _ _ h => h) (Or.inl ⟨by rfl, ?ydb13⟩) ⟨till_hold hs1.out, till_hold trivial⟩ (fun _ => ?rdb13)
            case ydb13 => (intro wS hSw; (try dsimp only at hSw); go_split_ands; go_simp <;> with_reducible rfl)
            (try simp only [Act.put, List.setIfInBounds_toArray, List.set_cons_zero, List.set_cons_succ])
            refine till_take1 (i := 14) (v := ?vdb14) rfl (by kernel_rfl) (by kernel_rfl) (by kernel_rfl) (by kernel_rfl) (by kernel_rfl) (by kernel_rfl) (by kernel_rfl) (fun _ _ _ h => h) (Or.inl ⟨by rfl, ?ydb14⟩) ⟨till_hold hs1.out, till_hold trivial⟩ (fun _ => ?rdb14)
            case ydb14 => (intro wS hSw; (try dsimp only at hSw); go_split_ands; go_simp <;> with_reducible rfl)
            (try simp only [Act.put, List.setIfInBounds_toArray, List.set_cons_zero, List.set_cons_succ])
            refine till_ready (i := 15) (o := _) (by kernel_rfl) rfl (fun K hK => ?_)
            go_simp
            refine hK.out _ _ ⟨till_gone (by kernel_rfl), till_gone (by kernel_rfl)⟩ ?_
            clear hK K
            (try simp only [Act.put, List.setIfInBounds_toArray, List.set_cons_zero, List.set_cons_succ])
            refine till_done (by kernel_rfl) ?_ _
            go_wp2
            obtain ⟨wz, hwz⟩ : ∃ wz, wz = (wq.setCell ⟨f x, y, none⟩ (.int .i64 (D x y))).drew := ⟨_, rfl⟩
            rw [← hwz]
            have hT : TabF wz w.heap.size g f c k (upd D x y (D x y)) := by rw [hwz]; exact HT.out.drewN 1
            have hBz : Below w.heap.size w wz := by rw [hwz]; exact HBq.out.drew
            clear HT HBq hwz h1 h2' h3 h5 hs1
            have h1 := hT.row y hyn
            have h3 := hT.cell y x hyn hxn
            have h3' : upd D x y (D x y) y x = D x y := by unfold upd; rw [if_neg (by omega)]; exact HSY.out
            rw [h3'] at h3
            have h5 := hT.free y x hyn hxn
            clear h3'
            have hs1 := Lib.hid (show (fun w' : World => w'.cell? ⟨g, y, none⟩ = some (.slice (some ⟨f y, 0, none⟩) k (c y)) ∧ w'.cell? ⟨f y, x, none⟩ = some (.int .i64 (D x y))) wz.drew from ⟨cdw h1, cdw h3⟩)
            have HT := Lib.hid (hT.set hyn hxn (D x y))
            have HBz := Lib.hid (hBz.setCell (p := ⟨f y, x, none⟩) (hT.hf y hyn).1 (.int .i64 (D x y)))
            clear hT hBz
            refine till_region (T := Till2 [15] (fun w' : World => w'.cell? ⟨g, y, none⟩ = some (.slice (some ⟨f y, 0, none⟩) k (c y)) ∧ w'.cell? ⟨f y, x, none⟩ = some (.int .i64 (D x y))) [15] (fun _ : World => True)) (by kernel_rfl) ⟨till_hold hs1.out, till_hold trivial⟩ (fun _ => ?_)
            refine till_take1 (i := 0) (v := ?veb0) rfl (by kernel_rfl) (by kernel_rfl) (by kernel_rfl) (by kernel_rfl) (by kernel_rfl) (by kernel_rfl) (by kernel_rfl) (fun _ _ _ h => h) (Or.inl ⟨by rfl, ?yeb0⟩) ⟨till_hold hs1.out, till_hold trivial⟩ (fun _ => ?reb0)
            case yeb0 => (intro wS hSw; (try dsimp only at hSw); go_split_ands; go_simp <;> with_reducible rfl)
            (try simp only [Act.put, List.setIfInBounds_toArray, List.set_cons_zero, List.set_cons_succ])
            refine till_take1 (i := 1) (v := ?veb1) rfl (by kernel_rfl) (by kernel_rfl) (by kernel_rfl) (by kernel_rfl) (by kernel_rfl) (by kernel_rfl) (by kernel_rfl) (fun _ _ _ h => h) (Or.inl ⟨by rfl, ?yeb1⟩) ⟨till_hold hs1.out, till_hold trivial⟩ (fun _ => ?reb1)
            case yeb1 => (intro wS hSw; (try dsimp only at hSw); go_split_ands; go_simp <;> with_reducible rfl)
            (try simp only [Act.put, List.setIfInBounds_toArray, List.set_cons_zero, List.set_cons_succ])
            refine till_take1 (i := 2) (v := ?veb2) rfl (by kernel_rfl) (by kernel_rfl) (by kernel_rfl) (by kernel_rfl) (by kernel_rfl) (by kernel_rfl) (by kernel_rfl) (fun _ _ _ h => h) (Or.inl ⟨by rfl, ?yeb2⟩) ⟨till_hold hs1.out, till_hold trivial⟩ (fun _ => ?reb2)
            case yeb2 => (intro wS hSw; (try dsimp only at hSw); go_split_ands; go_simp <;> with_reducible rfl)
            (try simp only [Act.put, List.setIfInBounds_toArray, List.set_cons_zero, List.set_cons_succ])
            refine till_take1 (i := 3) (v := ?veb3) rfl (by kernel_rfl) (by kernel_rfl) (by kernel_rfl) (by kernel_rfl) (by kernel_rfl) (by kernel_rfl) (by kernel_rfl) (fun _ _ _ h => h) (Or.inl ⟨by rfl, ?yeb3⟩) ⟨till_hold hs1.out, till_hold trivial⟩ (fun _ => ?reb3)
            case yeb3 => (intro wS hSw; (try dsimp only at hSw); go_split_ands; go_simp <;> with_reducible rfl)
            (try simp only [Act.put, List.setIfInBounds_toArray, List.set_cons_zero, List.set_cons_succ])
            refine till_take1 (i := 4) (v := ?veb4) rfl (by kernel_rfl) (by kernel_rfl) (by kernel_rfl) (by kernel_rfl) (by kernel_rfl) (by kernel_rfl) (by kernel_rfl) (fun _ _ _ h => h) (Or.inl ⟨by rfl, ?yeb4⟩) ⟨till_hold hs1.out, till_hold trivial⟩ (fun _ => ?reb4)
            case yeb4 => (intro wS hSw; (try dsimp only at hSw); go_split_ands; go_simp <;> with_reducible rfl)
            (try simp only [Act.put, List.setIfInBounds_toArray, List.set_cons_zero, List.set_cons_succ])
            refine till_take1 (i := 5) (v := ?veb5) rfl (by kernel_rfl) (by kernel_rfl) (by kernel_rfl) (by kernel_rfl) (by kernel_rfl) (by kernel_rfl) (by kernel_rfl) (fun _ _ _ h => h) (Or.inl ⟨by rfl, ?yeb5⟩) ⟨till_hold hs1.out, till_hold trivial⟩ (fun _ => ?reb5)
            case yeb5 => (intro wS hSw; (try dsimp only at hSw); go_split_ands; go_simp <;> with_reducible rfl)
            (try simp only [Act.put, List.setIfInBounds_toArray, List.set_cons_zero, List.set_cons_succ])
            refine till_take1 (i := 6) (v := ?veb6) rfl (by kernel_rfl) (by kernel_rfl) (by kernel_rfl) (by kernel_rfl) (by kernel_rfl) (by kernel_rfl) (by kernel_rfl) (fun _ _ _ h => h) (Or.inl ⟨by rfl, ?yeb6⟩) ⟨till_hold hs1.out, till_hold trivial⟩ (fun _ => ?reb6)
            case yeb6 => (intro wS hSw; (try dsimp only at hSw); go_split_ands; go_simp <;> with_reducible rfl)
            (try simp only [Act.put, List.setIfInBounds_toArray, List.set_cons_zero, List.set_cons_succ])
            refine till_take1 (i := 7) (v := ?veb7) rfl (by kernel_rfl) (by kernel_rfl) (by kernel_rfl) (by kernel_rfl) (by kernel_rfl) (by kernel_rfl) (by kernel_rfl) (fun _ _ _ h => h) (Or.inl ⟨by rfl, ?yeb7⟩) ⟨till_hold hs1.out, till_hold trivial⟩ (fun _ => ?reb7)
            case yeb7 => (intro wS hSw; (try dsimp only at hSw); go_split_ands; go_simp <;> with_reducible rfl)
            (try simp only [Act.put, List.setIfInBounds_toArray, List.set_cons_zero, List.set_cons_succ])
            refine till_take1 (i := 8) (v := ?veb8) rfl (by kernel_rfl) (by kernel_rfl) (by kernel_rfl) (by kernel_rfl) (by kernel_rfl) (by kernel_rfl) (by kernel_rfl) (fun _ _ _ h => h) (Or.inl ⟨by rfl, ?yeb8⟩) ⟨till_hold hs1.out, till_hold trivial⟩ (fun _ => ?reb8)
            case yeb8 => (intro wS hSw; (try dsimp only at hSw); go_split_ands; go_simp <;> with_reducible rfl)
            (try simp only [Act.put, List.setIfInBounds_toArray, List.set_cons_zero, List.set_cons_succ])
            refine till_take1 (i := 9) (v := ?veb9) rfl (by kernel_rfl) (by kernel_rfl) (by kernel_rfl) (by kernel_rfl) (by kernel_rfl) (by kernel_rfl) (by kernel_rfl) (fun _ _ _ h => h) (Or.inl ⟨by rfl, ?yeb9⟩) ⟨till_hold hs1.out, till_hold trivial⟩ (fun _ => ?reb9)
            case yeb9 => (intro wS hSw; (try dsimp only at hSw); go_split_ands; go_simp <;> with_reducible rfl)
            (try simp only [Act.put, List.setIfInBounds_toArray, List.set_cons_zero, List.set_cons_succ])
            refine till_take1 (i := 10) (v := ?veb10) rfl (by kernel_rfl) (by kernel_rfl) (by kernel_rfl) (by kernel_rfl) (by kernel_rfl) (by kernel_rfl) (by kernel_rfl) (fun _ _ _ h => h) (Or.inl ⟨by rfl, ?yeb10⟩) ⟨till_hold hs1.out, till_hold trivial⟩ (fun _ => ?reb10)
            case yeb10 => (intro wS hSw; (try dsimp only at hSw); go_split_ands; go_simp <;> with_reducible rfl)
            (try simp only [Act.put, List.setIfInBounds_toArray, List.set_cons_zero, List.set_cons_succ])
            refine till_take1 (i := 11) (v := ?veb11) rfl (by kernel_rfl) (by kernel_rfl) (by kernel_rfl) (by kernel_rfl) (by kernel_rfl) (by kernel_rfl) (by kernel_rfl) (fun _ _ _ h => h) (Or.inl ⟨by rfl, ?yeb11⟩) ⟨till_hold hs1.out, till_hold trivial⟩ (fun _ => ?reb11)
            case yeb11 => (intro wS hSw; (try dsimp only at hSw); go_split_ands; go_simp <;> with_reducible rfl)
            (try simp only [Act.put, List.setIfInBounds_toArray, List.set_cons_zero, List.set_cons_succ])
            refine till_take1 (i := 12) (v := ?veb12) rfl (by kernel_rfl) (by kernel_rfl) (by kernel_rfl) (by kernel_rfl) (by kernel_rfl) (by kernel_rfl) (by kernel_rfl) (fun _ _ _ h => h) (Or.inl ⟨by rfl, ?yeb12⟩) ⟨till_hold hs1.out, till_hold trivial⟩ (fun _ => ?reb12)
            case yeb12 => (intro wS hSw; (try dsimp only at hSw); go_split_ands; go_simp <;> with_reducible rfl)
            (try simp only [Act.put, List.setIfInBounds_toArray, List.set_cons_zero, List.set_cons_succ])
            refine till_take1 (i := 13) (v := ?veb13) rfl (by kernel_rfl) (by kernel_rfl) (by kernel_rfl) (by kernel_rfl) (by kernel_rfl) (by kernel_rfl) (by kernel_rfl) (fun _ _ _ h => h) (Or.inl ⟨by rfl, ?yeb13⟩) ⟨till_hold hs1.out, till_hold trivial⟩ (fun _ => ?reb13)
            case yeb13 => (intro wS hSw; (try dsimp only at hSw); go_split_ands; go_simp <;> with_reducible rfl)
            (try simp only [Act.put, List.setIfInBounds_toArray, List.set_cons_zero, List.set_cons_succ])
            refine till_take1 (i := 14) (v := ?veb14) rfl (by kernel_rfl) (by kernel_rfl) (by kernel_rfl) (by kernel_rfl) (by kernel_rfl) (by kernel_rfl) (by kernel_rfl) (fun _ _ _ h => h) (Or.inl ⟨by rfl, ?yeb14⟩) ⟨till_hold hs1.out, till_hold trivial⟩ (fun _ => ?reb14)
            case yeb14 => (intro wS hSw; (try dsimp only at hSw); go_split_ands; go_simp <;> with_reducible rfl)
            (try simp only [Act.put, List.setIfInBounds_toArray, List.set_cons_zero, List.set_cons_succ])
            refine till_ready (i := 15) (o := _) (by kernel_rfl) rfl (fun K hK => ?_)
            go_simp
            refine hK.out _ _ ⟨till_gone (by kernel_rfl), till_gone (by kernel_rfl)⟩ ?_
            clear hK K
            (try simp only [Act.put, List.setIfInBounds_toArray, List.set_cons_zero, List.set_cons_succ])
            refine till_done (by kernel_rfl) ?_ _
            go_wp2
            go_roundw
            case rel =>
              refine ⟨q + 1, by omega, by go_num, (HT.out.drewN 1).congr (fun i j _ _ => ?_), HBz.out.drew⟩
              rw [take_snoc HX.out, hD.out]
              exact stp0_upd (o := ⟨x, y, C, W⟩) rfl rfl hxy (by rw [← hD.out]; exact (mn_ge (show ¬ W < D x y by omega)).symm) i j
            case measure => simp [intOf]; omega
        · obtain rfl : q = ln := by omega
          have HT := Lib.hid (show TabF wr w.heap.size g f c k (fwN k (stp0 l) 0) from hT.congr (fun i j _ _ => by rw [List.take_of_length_le (by rw [HLN.out]; exact Nat.le_refl _)]; rfl))
          have HBD := Lib.hid (stp0_bd k l (fun o ho => (isOff_iff (HOFF.out o ho)).w0))
          obtain ⟨D0, hD0⟩ : ∃ D0, Hid (D0 = stp0 l) := ⟨_, Lib.hid rfl⟩
          rw [← hD0.out] at HT HBD
          have HB := Lib.hid hB
          clear hT hB
          go_wp2_with fail
          go_loopw [13] (fun i wr => ∃ cc : Nat, cc ≤ k ∧ i = .int .i64 cc ∧ TabF wr w.heap.size g f c k (fwN k D0 cc) ∧ Below w.heap.size w wr) (fun i _ => k - (intOf i).toNat)
          case atStart => exact ⟨0, Nat.zero_le _, rfl, HT.out, HB.out⟩
          case round =>
            clear HT HB
            obtain ⟨cc, hcc, rfl, hT, hB⟩ := hrel
            by_cases hc1 : cc < k
            · obtain ⟨E0, hE0⟩ : ∃ E0, Hid (E0 = fwN k D0 cc) := ⟨_, Lib.hid rfl⟩
              have HBD0 := Lib.hid (show Bd k E0 from by rw [hE0.out]; exact HBD.out.fwN cc hcc)
              rw [← hE0.out] at hT
              have HT := Lib.hid hT
              have HB := Lib.hid hB
              clear hT hB
              go_wp2_with fail
              go_loopw [14] (fun i wr => ∃ aa : Nat, aa ≤ k ∧ i = .int .i64 aa ∧ TabF wr w.heap.size g f c k (rlxA k E0 cc aa) ∧ Below w.heap.size w wr) (fun i _ => k - (intOf i).toNat)
              case atStart => exact ⟨0, Nat.zero_le _, rfl, HT.out, HB.out⟩
              case round =>
                clear HT HB
                obtain ⟨aa, haa, rfl, hT, hB⟩ := hrel
                by_cases ha1 : aa < k
                · obtain ⟨E1, hE1⟩ : ∃ E1, Hid (E1 = rlxA k E0 cc aa) := ⟨_, Lib.hid rfl⟩
                  have HBD1 := Lib.hid (show Bd k E1 from by rw [hE1.out]; exact HBD0.out.rlxA hc1 aa haa)
                  rw [← hE1.out] at hT
                  have HT := Lib.hid hT
                  have HB := Lib.hid hB
                  clear hT hB
                  go_wp2_with fail
                  go_loopw [15] (fun i wr => ∃ bb : Nat, bb ≤ k ∧ i = .int .i64 bb ∧ TabF wr w.heap.size g f c k (rlxB E1 cc aa bb) ∧ Below w.heap.size w wr) (fun i _ => k - (intOf i).toNat)
                  case atStart => exact ⟨0, Nat.zero_le _, rfl, HT.out, HB.out⟩
                  case round =>
                    clear HT HB
                    obtain ⟨bb, hbb, rfl, hT, hB⟩ := hrel
                    by_cases hb1 : bb < k
                    · obtain ⟨E, hE⟩ : ∃ E, Hid (E = rlxB E1 cc aa bb) := ⟨_, Lib.hid rfl⟩
                      have hbd : Bd k E := by rw [hE.out]; exact HBD1.out.rlxB hc1 ha1 bb hbb
                      obtain ⟨d1, d2⟩ := hbd aa cc ha1 hc1
                      obtain ⟨d3, d4⟩ := hbd cc bb hc1 hb1
                      obtain ⟨d5, d6⟩ := hbd aa bb ha1 hb1
                      rw [← hE.out] at hT
                      clear hbd
                      have h1 := hT.row aa ha1
                      have h2' := hT.row cc hc1
                      have h3 := hT.cell aa bb ha1 hb1
                      have h4 := hT.cell aa cc ha1 hc1
                      have h5 := hT.cell cc bb hc1 hb1
                      have h6 := hT.free aa bb ha1 hb1
                      have t0 : IntKind.i64.wrap (E aa cc + E cc bb) = E aa cc + E cc bb := by rw [IntKind.wrap_i64]; omega
                      have hs1 := Lib.hid (show (fun w' : World => w'.cell? ⟨g, aa, none⟩ = some (.slice (some ⟨f aa, 0, none⟩) k (c aa)) ∧ w'.cell? ⟨g, cc, none⟩ = some (.slice (some ⟨f cc, 0, none⟩) k (c cc)) ∧ w'.cell? ⟨f aa, bb, none⟩ = some (.int .i64 (E aa bb)) ∧ w'.cell? ⟨f aa, cc, none⟩ = some (.int .i64 (E aa cc)) ∧ w'.cell? ⟨f cc, bb, none⟩ = some (.int .i64 (E cc bb))) wr.drew from ⟨cdw h1, cdw h2', cdw h3, cdw h4, cdw h5⟩)
                      have HT := Lib.hid hT
                      have HB := Lib.hid hB
                      clear hT hB
                      by_cases g1 : E aa cc + E cc bb < E aa bb
                      · have HG := Lib.hid g1
                        go_wp2
                        refine till_region (T := Till2 [29] (fun w' : World => w'.cell? ⟨g, aa, none⟩ = some (.slice (some ⟨f aa, 0, none⟩) k (c aa)) ∧ w'.cell? ⟨g, cc, none⟩ = some (.slice (some ⟨f cc, 0, none⟩) k (c cc)) ∧ w'.cell? ⟨f aa, bb, none⟩ = some (.int .i64 (E aa bb)) ∧ w'.cell? ⟨f aa, cc, none⟩ = some (.int .i64 (E aa cc)) ∧ w'.cell? ⟨f cc, bb, none⟩ = some (.int .i64 (E cc bb))) [29] (fun _ : World => True)) (by kernel_rfl) ⟨till_hold hs1.out, till_hold trivial⟩ (fun _ => ?_)
                        refine till_take1 (i := 0) (v := ?vfa0) rfl (by kernel_rfl) (by kernel_rfl) (by kernel_rfl) (by kernel_rfl) (by kernel_rfl) (by kernel_rfl) (by kernel_rfl) (fun _ _ _ h => h) (Or.inl ⟨by rfl, ?yfa0⟩) ⟨till_hold hs1.out, till_hold trivial⟩ (fun _ => ?rfa0)
                        case yfa0 => (intro wS hSw; (try dsimp only at hSw); go_split_ands; go_simp <;> with_reducible rfl)
                        (try simp only [Act.put, List.setIfInBounds_toArray, List.set_cons_zero, List.set_cons_succ])
                        refine till_take1 (i := 1) (v := ?vfa1) rfl (by kernel_rfl) (by kernel_rfl) (by kernel_rfl) (by kernel_rfl) (by kernel_rfl) (by kernel_rfl) (by kernel_rfl) (fun _ _ _ h => h) (Or.inl ⟨by rfl, ?yfa1⟩) ⟨till_hold hs1.out, till_hold trivial⟩ (fun _ => ?rfa1)
                        case yfa1 => (intro wS hSw; (try dsimp only at hSw); go_split_ands; go_simp <;> with_reducible rfl)
                        (try simp only [Act.put, List.setIfInBounds_toArray, List.set_cons_zero, List.set_cons_succ])
                        refine till_take1 (i := 2) (v := ?vfa2) rfl (by kernel_rfl) (by kernel_rfl) (by kernel_rfl) (by kernel_rfl) (by kernel_rfl) (by kernel_rfl) (by kernel_rfl) (fun _ _ _ h => h) (Or.inl ⟨by rfl, ?yfa2⟩) ⟨till_hold hs1.out, till_hold trivial⟩ (fun _ => ?rfa2)
                        case yfa2 => (intro wS hSw; (try dsimp only at hSw); go_split_ands; go_simp <;> with_reducible rfl)
                        (try simp only [Act.put, List.setIfInBounds_toArray, List.set_cons_zero, List.set_cons_succ])
                        refine till_take1 (i := 3) (v := ?vfa3) rfl (by kernel_rfl) (by kernel_rfl) (by kernel_rfl) (by kernel_rfl) (by kernel_rfl) (by kernel_rfl) (by kernel_rfl) (fun _ _ _ h => h) (Or.inl ⟨by rfl, ?yfa3⟩) ⟨till_hold hs1.out, till_hold trivial⟩ (fun _ => ?rfa3)
                        case yfa3 => (intro wS hSw; (try dsimp only at hSw); go_split_ands; go_simp <;> with_reducible rfl)
                        (try simp only [Act.put, List.setIfInBounds_toArray, List.set_cons_zero, List.set_cons_succ])
                        refine till_take1 (i := 4) (v := ?vfa4) rfl (by kernel_rfl) (by kernel_rfl) (by kernel_rfl) (by kernel_rfl) (by kernel_rfl) (by kernel_rfl) (by kernel_rfl) (fun _ _ _ h => h) (Or.inl ⟨by rfl, ?yfa4⟩) ⟨till_hold hs1.out, till_hold trivial⟩ (fun _ => ?rfa4)
                        case yfa4 => (intro wS hSw; (try dsimp only at hSw); go_split_ands; go_simp <;> with_reducible rfl)
                        (try simp only [Act.put, List.setIfInBounds_toArray, List.set_cons_zero, List.set_cons_succ])
                        refine till_take1 (i := 5) (v := ?vfa5) rfl (by kernel_rfl) (by kernel_rfl) (by kernel_rfl) (by kernel_rfl) (by kernel_rfl) (by kernel_rfl) (by kernel_rfl) (fun _ _ _ h => h) (Or.inl ⟨by rfl, ?yfa5⟩) ⟨till_hold hs1.out, till_hold trivial⟩ (fun _ => ?rfa5)
                        case yfa5 => (intro wS hSw; (try dsimp only at hSw); go_split_ands; go_simp <;> with_reducible rfl)
                        (try simp only [Act.put, List.setIfInBounds_toArray, List.set_cons_zero, List.set_cons_succ])
                        refine till_take1 (i := 6) (v := ?vfa6) rfl (by kernel_rfl) (by kernel_rfl) (by kernel_rfl) (by kernel_rfl) (by kernel_rfl) (by kernel_rfl) (by kernel_rfl) (fun _ _ _ h => h) (Or.inl ⟨by rfl, ?yfa6⟩) ⟨till_hold hs1.out, till_hold trivial⟩ (fun _ => ?rfa6)
                        case yfa6 => (intro wS hSw; (try dsimp only at hSw); go_split_ands; go_simp <;> with_reducible rfl)
                        (try simp only [Act.put, List.setIfInBounds_toArray, List.set_cons_zero, List.set_cons_succ])
                        refine till_take1 (i := 7) (v := ?vfa7) rfl (by kernel_rfl) (by kernel_rfl) (by kernel_rfl) (by kernel_rfl) (by kernel_rfl) (by kernel_rfl) (by kernel_rfl) (fun _ _ _ h => h) (Or.inl ⟨by rfl, ?yfa7⟩) ⟨till_hold hs1.out, till_hold trivial⟩ (fun _ => ?rfa7)
                        case yfa7 => (intro wS hSw; (try dsimp only at hSw); go_split_ands; go_simp <;> with_reducible rfl)
                        (try simp only [Act.put, List.setIfInBounds_toArray, List.set_cons_zero, List.set_cons_succ])
                        refine till_take1 (i := 8) (v := ?vfa8) rfl (by kernel_rfl) (by kernel_rfl) (by kernel_rfl) (by kernel_rfl) (by kernel_rfl) (by kernel_rfl) (by kernel_rfl) (fun _ _ _ h => h) (Or.inl ⟨by rfl, ?yfa8⟩) ⟨till_hold hs1.out, till_hold trivial⟩ (fun _ => ?rfa8)
                        case yfa8 => (intro wS hSw; (try dsimp only at hSw); go_split_ands; go_simp <;> with_reducible rfl)
                        (try simp only [Act.put, List.setIfInBounds_toArray, List.set_cons_zero, List.set_cons_succ])
                        refine till_take1 (i := 9) (v := ?vfa9) rfl (by kernel_rfl) (by kernel_rfl) (by kernel_rfl) (by kernel_rfl) (by kernel_rfl) (by kernel_rfl) (by kernel_rfl) (fun _ _ _ h => h) (Or.inl ⟨by rfl, ?yfa9⟩) ⟨till_hold hs1.out, till_hold trivial⟩ (fun _ => ?rfa9)
                        case yfa9 => (intro wS hSw; (try dsimp only at hSw); go_split_ands; go_simp <;> with_reducible rfl)
                        (try simp only [Act.put, List.setIfInBounds_toArray, List.set_cons_zero, List.set_cons_succ])
                        refine till_take1 (i := 10) (v := ?vfa10) rfl (by kernel_rfl) (by kernel_rfl) (by kernel_rfl) (by kernel_rfl) (by kernel_rfl) (by kernel_rfl) (by kernel_rfl) (fun _ _ _ h => h) (Or.inl ⟨by rfl, ?yfa10⟩) ⟨till_hold hs1.out, till_hold trivial⟩ (fun _ => ?rfa10)
                        case yfa10 => (intro wS hSw; (try dsimp only at hSw); go_split_ands; go_simp <;> with_reducible rfl)
                        (try simp only [Act.put, List.setIfInBounds_toArray, List.set_cons_zero, List.set_cons_succ])
                        refine till_take1 (i := 11) (v := ?vfa11) rfl (by kernel_rfl) (by kernel_rfl) (by kernel_rfl) (by kernel_rfl) (by kernel_rfl) (by kernel_rfl) (by kernel_rfl) (fun _ _ _ h => h) (Or.inl ⟨by rfl, ?yfa11⟩) ⟨till_hold hs1.out, till_hold trivial⟩ (fun _ => ?rfa11)
                        case yfa11 => (intro wS hSw; (try dsimp only at hSw); go_split_ands; go_simp <;> with_reducible rfl)
                        (try simp only [Act.put, List.setIfInBounds_toArray, List.set_cons_zero, List.set_cons_succ])
                        refine till_take1 (i := 12) (v := ?vfa12) rfl (by kernel_rfl) (by kernel_rfl) (by kernel_rfl) (by kernel_rfl) (by kernel_rfl) (by kernel_rfl) (by kernel_rfl) (fun _ _ _ h => h) (Or.inl ⟨by rfl, ?yfa12⟩) ⟨till_hold hs1.out, till_hold trivial⟩ (fun _ => ?rfa12)
                        case yfa12 => (intro wS hSw; (try dsimp only at hSw); go_split_ands; go_simp <;> with_reducible rfl)
                        (try simp only [Act.put, List.setIfInBounds_toArray, List.set_cons_zero, List.set_cons_succ])
                        refine till_take1 (i := 13) (v := ?vfa13) rfl (by kernel_rfl) (by kernel_rfl) (by kernel_rfl) (by kernel_rfl) (by kernel_rfl) (by kernel_rfl) (by kernel_rfl) (fun _ _ _ h => h) (Or.inl ⟨by rfl, ?yfa13⟩) ⟨till_hold hs1.out, till_hold trivial⟩ (fun _ => ?rfa13)
                        case yfa13 => (intro wS hSw; (try dsimp only at hSw); go_split_ands; go_simp <;> with_reducible rfl)
                        (try simp only [Act.put, List.setIfInBounds_toArray, List.set_cons_zero, List.set_cons_succ])
                        refine till_take1 (i := 14) (v := ?vfa14) rfl (by kernel_rfl) (by kernel_rfl) (by kernel_rfl) (by kernel_rfl) (by kernel_rfl) (by kernel_rfl) (by kernel_rfl) (fun _ _ _ h => h) (Or.inl ⟨by rfl, ?yfa14⟩) ⟨till_hold hs1.out, till_hold trivial⟩ (fun _ => ?rfa14)
                        case yfa14 => (intro wS hSw; (try dsimp only at hSw); go_split_ands; go_simp <;> with_reducible rfl)
                        (try simp only [Act.put, List.setIfInBounds_toArray, List.set_cons_zero, List.set_cons_succ])
                        refine till_take1 (i := 15) (v := ?vfa15) rfl (by kernel_rfl) (by kernel_rfl) (by kernel_rfl) (by kernel_rfl) (by kernel_rfl) (by kernel_rfl) (by kernel_rfl) (fun _ _ _ h => h) (Or.inl ⟨by rfl, ?yfa15⟩) ⟨till_hold hs1.out, till_hold trivial⟩ (fun _ => ?rfa15)
                        case yfa15 => (intro wS hSw; (try dsimp only at hSw); go_split_ands; go_simp <;> with_reducible rfl)
                        (try simp only [Act.put, List.setIfInBounds_toArray, List.set_cons_zero, List.set_cons_succ])
                        refine till_take1 (i := 16) (v := ?vfa16) rfl (by kernel_rfl) (by kernel_rfl) (by kernel_rfl) (by kernel_rfl) (by kernel_rfl) (by kernel_rfl) (by kernel_rfl) (fun _ _ _ h => h) (Or.inl ⟨by rfl, ?yfa16⟩) ⟨till_hold hs1.out, till_hold trivial⟩ (fun _ => ?rfa16)
                        case yfa16 => (intro wS hSw; (try dsimp only at hSw); go_split_ands; go_simp <;> with_reducible rfl)
                        (try simp only [Act.put, List.setIfInBounds_toArray, List.set_cons_zero, List.set_cons_succ])
                        refine till_take1 (i := 17) (v := ?vfa17) rfl (by kernel_rfl) (by kernel_rfl) (by kernel_rfl) (by kernel_rfl) (by kernel_rfl) (by kernel_rfl) (by kernel_rfl) (fun _ _ _ h => h) (Or.inl ⟨by rfl, ?yfa17⟩) ⟨till_hold hs1.out, till_hold trivial⟩ (fun _ => ?rfa17)
                        case yfa17 => (intro wS hSw; (try dsimp only at hSw); go_split_ands; go_simp <;> with_reducible rfl)
                        (try simp only [Act.put, List.setIfInBounds_toArray, List.set_cons_zero, List.set_cons_succ])
                        refine till_take1 (i := 18) (v := ?vfa18) rfl (by kernel_rfl) (by kernel_rfl) (by kernel_rfl) (by kernel_rfl) (by kernel_rfl) (by kernel_rfl) (by kernel_rfl) (fun _ _ _ h => h) (Or.inl ⟨by rfl, ?yfa18⟩) ⟨till_hold hs1.out, till_hold trivial⟩ (fun _ => ?rfa18)
                        case yfa18 => (intro wS hSw; (try dsimp only at hSw); go_split_ands; go_simp <;> with_reducible rfl)
                        (try simp only [Act.put, List.setIfInBounds_toArray, List.set_cons_zero, List.set_cons_succ])
                        refine till_take1 (i := 19) (v := ?vfa19) rfl (by kernel_rfl) (by kernel_rfl) (by kernel_rfl) (by kernel_rfl) (by kernel_rfl) (by kernel_rfl) (by kernel_rfl) (fun _ _ _ h => h) (Or.inl ⟨by rfl, ?yfa19⟩) ⟨till_hold hs1.out, till_hold trivial⟩ (fun _ => ?rfa19)
                        case yfa19 => (intro wS hSw; (try dsimp only at hSw); go_split_ands; go_simp <;> with_reducible rfl)
                        (try simp only [Act.put, List.setIfInBounds_toArray, List.set_cons_zero, List.set_cons_succ])
                        refine till_take1 (i := 20) (v := ?vfa20) rfl (by kernel_rfl) (by kernel_rfl) (by kernel_rfl) (by kernel_rfl) (by kernel_rfl) (by kernel_rfl) (by kernel_rfl) (fun _ _ _ h => h) (Or.inl ⟨by rfl, ?yfa20⟩) ⟨till_hold hs1.out, till_hold trivial⟩ (fun _ => ?rfa20)
                        case yfa20 => (intro wS hSw; (try dsimp only at hSw); go_split_ands; go_simp <;> with_reducible rfl)
                        (try simp only [Act.put, List.setIfInBounds_toArray, List.set_cons_zero, List.set_cons_succ])
                        refine till_take1 (i := 21) (v := ?vfa21) rfl (by kernel_rfl) (by kernel_rfl) (by kernel_rfl) (by kernel_rfl) (by kernel_rfl) (by kernel_rfl) (by kernel_rfl) (fun _ _ _ h => h) (Or.inl ⟨by rfl, ?yfa21⟩) ⟨till_hold hs1.out, till_hold trivial⟩ (fun _ => ?rfa21)
                        case yfa21 => (intro wS hSw; (try dsimp only at hSw); go_split_ands; go_simp <;> with_reducible rfl)
                        (try simp only [Act.put, List.setIfInBounds_toArray, List.set_cons_zero, List.set_cons_succ])
                        refine till_take1 (i := 22) (v := ?vfa22) rfl (by kernel_rfl) (by kernel_rfl) (by kernel_rfl) (by kernel_rfl) (by kernel_rfl) (by kernel_rfl) (by kernel_rfl) (fun _ _ _ h => h) (Or.inl ⟨by rfl, ?yfa22⟩) ⟨till_hold hs1.out, till_hold trivial⟩ (fun _ => ?rfa22)
                        case yfa22 => (intro wS hSw; (try dsimp only at hSw); go_split_ands; go_simp <;> with_reducible rfl)
                        (try simp only [Act.put, List.setIfInBounds_toArray, List.set_cons_zero, List.set_cons_succ])
                        refine till_take1 (i := 23) (v := ?vfa23) rfl (by kernel_rfl) (by kernel_rfl) (by kernel_rfl) (by kernel_rfl) (by kernel_rfl) (by kernel_rfl) (by kernel_rfl) (fun _ _ _ h => h) (Or.inl ⟨by rfl, ?yfa23⟩) ⟨till_hold hs1.out, till_hold trivial⟩ (fun _ => ?rfa23)
                        case yfa23 => (intro wS hSw; (try dsimp only at hSw); go_split_ands; go_simp <;> with_reducible rfl)
                        (try simp only [Act.put, List.setIfInBounds_toArray, List.set_cons_zero, List.set_cons_succ])
                        refine till_take1 (i := 24) (v := ?vfa24) rfl (by kernel_rfl) (by kernel_rfl) (by kernel_rfl) (by kernel_rfl) (by kernel_rfl) (by kernel_rfl) (by kernel_rfl) (fun _ _ _ h => h) (Or.inl ⟨by rfl, ?yfa24⟩) ⟨till_hold hs1.out, till_hold trivial⟩ (fun _ => ?rfa24)
                        case yfa24 => (intro wS hSw; (try dsimp only at hSw); go_split_ands; go_simp <;> with_reducible rfl)
                        (try simp only [Act.put, List.setIfInBounds_toArray, List.set_cons_zero, List.set_cons_succ])
                        refine till_take1 (i := 25) (v := ?vfa25) rfl (by kernel_rfl) (by kernel_rfl) (by kernel_rfl) (by kernel_rfl) (by kernel_rfl) (by kernel_rfl) (by kernel_rfl) (fun _ _ _ h => h) (Or.inl ⟨by rfl, ?yfa25⟩) ⟨till_hold hs1.out, till_hold trivial⟩ (fun _ => ?rfa25)
                        case yfa25 => (intro wS hSw; (try dsimp only at hSw); go_split_ands; go_simp <;> with_reducible rfl)
                        (try simp only [Act.put, List.setIfInBounds_toArray, List.set_cons_zero, List.set_cons_succ])
                        refine till_take1 (i := 26) (v := ?vfa26) rfl (by kernel_rfl) (by kernel_rfl) (by kernel_rfl) (by kernel_rfl) (by kernel_rfl) (by kernel_rfl) (by kernel_rfl) (fun _ _ _ h => h) (Or.inl ⟨by rfl, ?yfa26⟩) ⟨till_hold hs1.out, till_hold trivial⟩ (fun _ => ?rfa26)
                        case yfa26 => (intro wS hSw; (try dsimp only at hSw); go_split_ands; go_simp <;> with_reducible rfl)
                        (try simp only [Act.put, List.setIfInBounds_toArray, List.set_cons_zero, List.set_cons_succ])
                        refine till_take1 (i := 27) (v := ?vfa27) rfl (by kernel_rfl) (by kernel_rfl) (by kernel_rfl) (by kernel_rfl) (by kernel_rfl) (by kernel_rfl) (by kernel_rfl) (fun _ _ _ h => h) (Or.inl ⟨by rfl, ?yfa27⟩) ⟨till_hold hs1.out, till_hold trivial⟩ (fun _ => ?rfa27)
                        case yfa27 => (intro wS hSw; (try dsimp only at hSw); go_split_ands; go_simp <;> with_reducible rfl)
                        (try simp only [Act.put, List.setIfInBounds_toArray, List.set_cons_zero, List.set_cons_succ])
                        refine till_take1 (i := 28) (v := ?vfa28) rfl (by kernel_rfl) (by kernel_rfl) (by kernel_rfl) (by kernel_rfl) (by kernel_rfl) (by kernel_rfl) (by kernel_rfl) (fun _ _ _ h => h) (Or.inl ⟨by rfl, ?yfa28⟩) ⟨till_hold hs1.out, till_hold trivial⟩ (fun _ => ?rfa28)
                        case yfa28 => (intro wS hSw; (try dsimp only at hSw); go_split_ands; go_simp <;> with_reducible rfl)
                        (try simp only [Act.put, List.setIfInBounds_toArray, List.set_cons_zero, List.set_cons_succ])
                        refine till_ready (i := 29) (o := _) (by kernel_rfl) rfl (fun K hK => ?_)
                        go_simp
                        refine hK.out _ _ ⟨till_gone (by kernel_rfl), till_gone (by kernel_rfl)⟩ ?_
                        clear hK K
                        (try simp only [Act.put, List.setIfInBounds_toArray, List.set_cons_zero, List.set_cons_succ])
                        refine till_done (by kernel_rfl) ?_ _
                        go_wp2
                        go_roundw
                        case rel =>
                          refine ⟨bb + 1, by omega, by go_num, ((HT.out.set ha1 hb1 (E aa cc + E cc bb)).drewN 1).congr (fun i j _ _ => ?_), (HB.out.setCell (p := ⟨f aa, bb, none⟩) (HT.out.hf aa ha1).1 (.int .i64 (E aa cc + E cc bb))).drew⟩
                          rw [hE.out]
                          show _ = upd (rlxB E1 cc aa bb) aa bb (if (rlxB E1 cc aa bb) aa cc + (rlxB E1 cc aa bb) cc bb < (rlxB E1 cc aa bb) aa bb then (rlxB E1 cc aa bb) aa cc + (rlxB E1 cc aa bb) cc bb else (rlxB E1 cc aa bb) aa bb) i j
                          rw [← hE.out, if_pos (by have := HG.out; omega)]
                        case measure => simp [intOf]; omega
                      · have HG := Lib.hid g1
                        go_wp2
                        refine till_region (T := Till2 [29] (fun w' : World => w'.cell? ⟨g, aa, none⟩ = some (.slice (some ⟨f aa, 0, none⟩) k (c aa)) ∧ w'.cell? ⟨g, cc, none⟩ = some (.slice (some ⟨f cc, 0, none⟩) k (c cc)) ∧ w'.cell? ⟨f aa, bb, none⟩ = some (.int .i64 (E aa bb)) ∧ w'.cell? ⟨f aa, cc, none⟩ = some (.int .i64 (E aa cc)) ∧ w'.cell? ⟨f cc, bb, none⟩ = some (.int .i64 (E cc bb))) [29] (fun _ : World => True)) (by kernel_rfl) ⟨till_hold hs1.out, till_hold trivial⟩ (fun _ => ?_)
                        refine till_take1 (i := 0) (v := ?vfb0) rfl (by kernel_rfl) (by kernel_rfl) (by kernel_rfl) (by kernel_rfl) (by kernel_rfl) (by kernel_rfl) (by kernel_rfl) (fun _ _ _ h => h) (Or.inl ⟨by rfl, ?yfb0⟩) ⟨till_hold hs1.out, till_hold trivial⟩ (fun _ => ?rfb0)
                        case yfb0 => (intro wS hSw; (try dsimp only at hSw); go_split_ands; go_simp <;> with_reducible rfl)
                        (try simp only [Act.put, List.setIfInBounds_toArray, List.set_cons_zero, List.set_cons_succ])
                        refine till_take1 (i := 1) (v := ?vfb1) rfl (by kernel_rfl) (by kernel_rfl) (by kernel_rfl) (by kernel_rfl) (by kernel_rfl) (by kernel_rfl) (by kernel_rfl) (fun _ _ _ h => h) (Or.inl ⟨by rfl, ?yfb1⟩) ⟨till_hold hs1.out, till_hold trivial⟩ (fun _ => ?rfb1)
                        case yfb1 => (intro wS hSw; (try dsimp only at hSw); go_split_ands; go_simp <;> with_reducible rfl)
                        (try simp only [Act.put, List.setIfInBounds_toArray, List.set_cons_zero, List.set_cons_succ])
                        refine till_take1 (i := 2) (v := ?vfb2) rfl (by kernel_rfl) (by kernel_rfl) (by kernel_rfl) (by kernel_rfl) (by kernel_rfl) (by kernel_rfl) (by kernel_rfl) (fun _ _ _ h => h) (Or.inl ⟨by rfl, ?yfb2⟩) ⟨till_hold hs1.out, till_hold trivial⟩ (fun _ => ?rfb2)
                        case yfb2 => (intro wS hSw; (try dsimp only at hSw); go_split_ands; go_simp <;> with_reducible rfl)
                        (try simp only [Act.put, List.setIfInBounds_toArray, List.set_cons_zero, List.set_cons_succ])
                        refine till_take1 (i := 3) (v := ?vfb3) rfl (by kernel_rfl) (by kernel_rfl) (by kernel_rfl) (by kernel_rfl) (by kernel_rfl) (by kernel_rfl) (by kernel_rfl) (fun _ _ _ h => h) (Or.inl ⟨by rfl, ?yfb3⟩) ⟨till_hold hs1.out, till_hold trivial⟩ (fun _ => ?rfb3)
                        case yfb3 => (intro wS hSw; (try dsimp only at hSw); go_split_ands; go_simp <;> with_reducible rfl)
                        (try simp only [Act.put, List.setIfInBounds_toArray, List.set_cons_zero, List.set_cons_succ])
                        refine till_take1 (i := 4) (v := ?vfb4) rfl (by kernel_rfl) (by kernel_rfl) (by kernel_rfl) (by kernel_rfl) (by kernel_rfl) (by kernel_rfl) (by kernel_rfl) (fun _ _ _ h => h) (Or.inl ⟨by rfl, ?yfb4⟩) ⟨till_hold hs1.out, till_hold trivial⟩ (fun _ => ?rfb4)
                        case yfb4 => (intro wS hSw; (try dsimp only at hSw); go_split_ands; go_simp <;> with_reducible rfl)
                        (try simp only [Act.put, List.setIfInBounds_toArray, List.set_cons_zero, List.set_cons_succ])
                        refine till_take1 (i := 5) (v := ?vfb5) rfl (by kernel_rfl) (by kernel_rfl) (by kernel_rfl) (by kernel_rfl) (by kernel_rfl) (by kernel_rfl) (by kernel_rfl) (fun _ _ _ h => h) (Or.inl ⟨by rfl, ?yfb5⟩) ⟨till_hold hs1.out, till_hold trivial⟩ (fun _ => ?rfb5)
                        case yfb5 => (intro wS hSw; (try dsimp only at hSw); go_split_ands; go_simp <;> with_reducible rfl)
                        (try simp only [Act.put, List.setIfInBounds_toArray, List.set_cons_zero, List.set_cons_succ])
                        refine till_take1 (i := 6) (v := ?vfb6) rfl (by kernel_rfl) (by kernel_rfl) (by kernel_rfl) (by kernel_rfl) (by kernel_rfl) (by kernel_rfl) (by kernel_rfl) (fun _ _ _ h => h) (Or.inl ⟨by rfl, ?yfb6⟩) ⟨till_hold hs1.out, till_hold trivial⟩ (fun _ => ?rfb6)
                        case yfb6 => (intro wS hSw; (try dsimp only at hSw); go_split_ands; go_simp <;> with_reducible rfl)
                        (try simp only [Act.put, List.setIfInBounds_toArray, List.set_cons_zero, List.set_cons_succ])
                        refine till_take1 (i := 7) (v := ?vfb7) rfl (by kernel_rfl) (by kernel_rfl) (by kernel_rfl) (by kernel_rfl) (by kernel_rfl) (by kernel_rfl) (by kernel_rfl) (fun _ _ _ h => h) (Or.inl ⟨by rfl, ?yfb7⟩) ⟨till_hold hs1.out, till_hold trivial⟩ (fun _ => ?rfb7)
                        case yfb7 => (intro wS hSw; (try dsimp only at hSw); go_split_ands; go_simp <;> with_reducible rfl)
                        (try simp only [Act.put, List.setIfInBounds_toArray, List.set_cons_zero, List.set_cons_succ])
                        refine till_take1 (i := 8) (v := ?vfb8) rfl (by kernel_rfl) (by kernel_rfl) (by kernel_rfl) (by kernel_rfl) (by kernel_rfl) (by kernel_rfl) (by kernel_rfl) (fun _ _ _ h => h) (Or.inl ⟨by rfl, ?yfb8⟩) ⟨till_hold hs1.out, till_hold trivial⟩ (fun _ => ?rfb8)
                        case yfb8 => (intro wS hSw; (try dsimp only at hSw); go_split_ands; go_simp <;> with_reducible rfl)
                        (try simp only [Act.put, List.setIfInBounds_toArray, List.set_cons_zero, List.set_cons_succ])
                        refine till_take1 (i := 9) (v := ?vfb9) rfl (by kernel_rfl) (by kernel_rfl) (by kernel_rfl) (by kernel_rfl) (by kernel_rfl) (by kernel_rfl) (by kernel_rfl) (fun _ _ _ h => h) (Or.inl ⟨by rfl, ?yfb9⟩) ⟨till_hold hs1.out, till_hold trivial⟩ (fun _ => ?rfb9)
                        case yfb9 => (intro wS hSw; (try dsimp only at hSw); go_split_ands; go_simp <;> with_reducible rfl)
                        (try simp only [Act.put, List.setIfInBounds_toArray, List.set_cons_zero, List.set_cons_succ])
                        refine till_take1 (i := 10) (v := ?vfb10) rfl (by kernel_rfl) (by kernel_rfl) (by kernel_rfl) (by kernel_rfl) (by kernel_rfl) (by kernel_rfl) (by kernel_rfl) (fun _ _ _ h => h) (Or.inl ⟨by rfl, ?yfb10⟩) ⟨till_hold hs1.out, till_hold trivial⟩ (fun _ => ?rfb10)
                        case yfb10 => (intro wS hSw; (try dsimp only at hSw); go_split_ands; go_simp <;> with_reducible rfl)
                        (try simp only [Act.put, List.setIfInBounds_toArray, List.set_cons_zero, List.set_cons_succ])
                        refine till_take1 (i := 11) (v := ?vfb11) rfl (by kernel_rfl) (by kernel_rfl) (by kernel_rfl) (by kernel_rfl) (by kernel_rfl) (by kernel_rfl) (by kernel_rfl) (fun _ _ _ h => h) (Or.inl ⟨by rfl, ?yfb11⟩) ⟨till_hold hs1.out, till_hold trivial⟩ (fun _ => ?rfb11)
                        case yfb11 => (intro wS hSw; (try dsimp only at hSw); go_split_ands; go_simp <;> with_reducible rfl)
                        (try simp only [Act.put, List.setIfInBounds_toArray, List.set_cons_zero, List.set_cons_succ])
                        refine till_take1 (i := 12) (v := ?vfb12) rfl (by kernel_rfl) (by kernel_rfl) (by kernel_rfl) (by kernel_rfl) (by kernel_rfl) (by kernel_rfl) (by kernel_rfl) (fun _ _ _ h => h) (Or.inl ⟨by rfl, ?yfb12⟩) ⟨till_hold hs1.out, till_hold trivial⟩ (fun _ => ?rfb12)
                        case yfb12 => (intro wS hSw; (try dsimp only at hSw); go_split_ands; go_simp <;> with_reducible rfl)
                        (try simp only [Act.put, List.setIfInBounds_toArray, List.set_cons_zero, List.set_cons_succ])
                        refine till_take1 (i := 13) (v := ?vfb13) rfl (by kernel_rfl) (by kernel_rfl) (by kernel_rfl) (by kernel_rfl) (by kernel_rfl) (by kernel_rfl) (by kernel_rfl) (fun _ _ _ h => h) (Or.inl ⟨by rfl, ?yfb13⟩) ⟨till_hold hs1.out, till_hold trivial⟩ (fun _ => ?rfb13)
                        case yfb13 => (intro wS hSw; (try dsimp only at hSw); go_split_ands; go_simp <;> with_reducible rfl)
                        (try simp only [Act.put, List.setIfInBounds_toArray, List.set_cons_zero, List.set_cons_succ])
                        refine till_take1 (i := 14) (v := ?vfb14) rfl (by kernel_rfl) (by kernel_rfl) (by kernel_rfl) (by kernel_rfl) (by kernel_rfl) (by kernel_rfl) (by kernel_rfl) (fun _ _ _ h => h) (Or.inl ⟨by rfl, ?yfb14⟩) ⟨till_hold hs1.out, till_hold trivial⟩ (fun _ => ?rfb14)
                        case yfb14 => (intro wS hSw; (try dsimp only at hSw); go_split_ands; go_simp <;> with_reducible rfl)
                        (try simp only [Act.put, List.setIfInBounds_toArray, List.set_cons_zero, List.set_cons_succ])
                        refine till_take1 (i := 15) (v := ?vfb15) rfl (by kernel_rfl) (by kernel_rfl) (by kernel_rfl) (by kernel_rfl) (by kernel_rfl) (by kernel_rfl) (by kernel_rfl) (fun _ _ _ h => h) (Or.inl ⟨by rfl, ?yfb15⟩) ⟨till_hold hs1.out, till_hold trivial⟩ (fun _ => ?rfb15)
                        case yfb15 => (intro wS hSw; (try dsimp only at hSw); go_split_ands; go_simp <;> with_reducible rfl)
                        (try simp only [Act.put, List.setIfInBounds_toArray, List.set_cons_zero, List.set_cons_succ])
                        refine till_take1 (i := 16) (v := ?vfb16) rfl (by kernel_rfl) (by kernel_rfl) (by kernel_rfl) (by kernel_rfl) (by kernel_rfl) (by kernel_rfl) (by kernel_rfl) (fun _ _ _ h => h) (Or.inl ⟨by rfl, ?yfb16⟩) ⟨till_hold hs1.out, till_hold trivial⟩ (fun _ => ?rfb16)
                        case yfb16 => (intro wS hSw; (try dsimp only at hSw); go_split_ands; go_simp <;> with_reducible rfl)
                        (try simp only [Act.put, List.setIfInBounds_toArray, List.set_cons_zero, List.set_cons_succ])
                        refine till_take1 (i := 17) (v := ?vfb17) rfl (by kernel_rfl) (by kernel_rfl) (by kernel_rfl) (by kernel_rfl) (by kernel_rfl) (by kernel_rfl) (by kernel_rfl) (fun _ _ _ h => h) (Or.inl ⟨by rfl, ?yfb17⟩) ⟨till_hold hs1.out, till_hold trivial⟩ (fun _ => ?rfb17)
                        case yfb17 => (intro wS hSw; (try dsimp only at hSw); go_split_ands; go_simp <;> with_reducible rfl)
                        (try simp only [Act.put, List.setIfInBounds_toArray, List.set_cons_zero, List.set_cons_succ])
                        refine till_take1 (i := 18) (v := ?vfb18) rfl (by kernel_rfl) (by kernel_rfl) (by kernel_rfl) (by kernel_rfl) (by kernel_rfl) (by kernel_rfl) (by kernel_rfl) (fun _ _ _ h => h) (Or.inl ⟨by rfl, ?yfb18⟩) ⟨till_hold hs1.out, till_hold trivial⟩ (fun _ => ?rfb18)
                        case yfb18 => (intro wS hSw; (try dsimp only at hSw); go_split_ands; go_simp <;> with_reducible rfl)
                        (try simp only [Act.put, List.setIfInBounds_toArray, List.set_cons_zero, List.set_cons_succ])
                        refine till_take1 (i := 19) (v := ?vfb19) rfl (by kernel_rfl) (by kernel_rfl) (by kernel_rfl) (by kernel_rfl) (by kernel_rfl) (by kernel_rfl) (by kernel_rfl) (fun _ _ _ h => h) (Or.inl ⟨by rfl, ?yfb19⟩) ⟨till_hold hs1.out, till_hold trivial⟩ (fun _ => ?rfb19)
                        case yfb19 => (intro wS hSw; (try dsimp only at hSw); go_split_ands; go_simp <;> with_reducible rfl)
                        (try simp only [Act.put, List.setIfInBounds_toArray, List.set_cons_zero, List.set_cons_succ])
                        refine till_take1 (i := 20) (v := ?vfb20) rfl (by kernel_rfl) (by kernel_rfl) (by kernel_rfl) (by kernel_rfl) (by kernel_rfl) (by kernel_rfl) (by kernel_rfl) (fun _ _ _ h => h) (Or.inl ⟨by rfl, ?yfb20⟩) ⟨till_hold hs1.out, till_hold trivial⟩ (fun _ => ?rfb20)
                        case yfb20 => (intro wS hSw; (try dsimp only at hSw); go_split_ands; go_simp <;> with_reducible rfl)
                        (try simp only [Act.put, List.setIfInBounds_toArray, List.set_cons_zero, List.set_cons_succ])
                        refine till_take1 (i := 21) (v := ?vfb21) rfl (by kernel_rfl) (by kernel_rfl) (by kernel_rfl) (by kernel_rfl) (by kernel_rfl) (by kernel_rfl) (by kernel_rfl) (fun _ _ _ h => h) (Or.inl ⟨by rfl, ?yfb21⟩) ⟨till_hold hs1.out, till_hold trivial⟩ (fun _ => ?rfb21)
                        case yfb21 => (intro wS hSw; (try dsimp only at hSw); go_split_ands; go_simp <;> with_reducible rfl)
                        (try simp only [Act.put, List.setIfInBounds_toArray, List.set_cons_zero, List.set_cons_succ])
                        refine till_take1 (i := 22) (v := ?vfb22) rfl (by kernel_rfl) (by kernel_rfl) (by kernel_rfl) (by kernel_rfl) (by kernel_rfl) (by kernel_rfl) (by kernel_rfl) (fun _ _ _ h => h) (Or.inl ⟨by rfl, ?yfb22⟩) ⟨till_hold hs1.out, till_hold trivial⟩ (fun _ => ?rfb22)
                        case yfb22 => (intro wS hSw; (try dsimp only at hSw); go_split_ands; go_simp <;> with_reducible rfl)
                        (try simp only [Act.put, List.setIfInBounds_toArray, List.set_cons_zero, List.set_cons_succ])
                        refine till_take1 (i := 23) (v := ?vfb23) rfl (by kernel_rfl) (by kernel_rfl) (by kernel_rfl) (by kernel_rfl) (by kernel_rfl) (by kernel_rfl) (by kernel_rfl) (fun _ _ _ h => h) (Or.inl ⟨by rfl, ?yfb23⟩) ⟨till_hold hs1.out, till_hold trivial⟩ (fun _ => ?rfb23)
                        case yfb23 => (intro wS hSw; (try dsimp only at hSw); go_split_ands; go_simp <;> with_reducible rfl)
                        (try simp only [Act.put, List.setIfInBounds_toArray, List.set_cons_zero, List.set_cons_succ])
                        refine till_take1 (i := 24) (v := ?vfb24) rfl (by kernel_rfl) (by kernel_rfl) (by kernel_rfl) (by kernel_rfl) (by kernel_rfl) (by kernel_rfl) (by kernel_rfl) (fun _ _ _ h => h) (Or.inl ⟨by rfl, ?yfb24⟩) ⟨till_hold hs1.out, till_hold trivial⟩ (fun _ => ?rfb24)
                        case yfb24 => (intro wS hSw; (try dsimp only at hSw); go_split_ands; go_simp <;> with_reducible rfl)
                        (try simp only [Act.put, List.setIfInBounds_toArray, List.set_cons_zero, List.set_cons_succ])
                        refine till_take1 (i := 25) (v := ?vfb25) rfl (by kernel_rfl) (by kernel_rfl) (by kernel_rfl) (by kernel_rfl) (by kernel_rfl) (by kernel_rfl) (by kernel_rfl) (fun _ _ _ h => h) (Or.inl ⟨by rfl, ?yfb25⟩) ⟨till_hold hs1.out, till_hold trivial⟩ (fun _ => ?rfb25)
                        case yfb25 => (intro wS hSw; (try dsimp only at hSw); go_split_ands; go_simp <;> with_reducible rfl)
                        (try simp only [Act.put, List.setIfInBounds_toArray, List.set_cons_zero, List.set_cons_succ])
                        refine till_take1 (i := 26) (v := ?vfb26) rfl (by kernel_rfl) (by kernel_rfl) (by kernel_rfl) (by kernel_rfl) (by kernel_rfl) (by kernel_rfl) (by kernel_rfl) (fun _ _ _ h => h) (Or.inl ⟨by rfl, ?yfb26⟩) ⟨till_hold hs1.out, till_hold trivial⟩ (fun _ => ?rfb26)
                        case yfb26 => (intro wS hSw; (try dsimp only at hSw); go_split_ands; go_simp <;> with_reducible rfl)
                        (try simp only [Act.put, List.setIfInBounds_toArray, List.set_cons_zero, List.set_cons_succ])
                        refine till_take1 (i := 27) (v := ?vfb27) rfl (by kernel_rfl) (by kernel_rfl) (by kernel_rfl) (by kernel_rfl) (by kernel_rfl) (by kernel_rfl) (by kernel_rfl) (fun _ _ _ h => h) (Or.inl ⟨by rfl, ?yfb27⟩) ⟨till_hold hs1.out, till_hold trivial⟩ (fun _ => ?rfb27)
                        case yfb27 => (intro wS hSw; (try dsimp only at hSw); go_split_ands; go_simp <;> with_reducible rfl)
                        (try simp only [Act.put, List.setIfInBounds_toArray, List.set_cons_zero, List.set_cons_succ])
                        refine till_take1 (i := 28) (v := ?vfb28) rfl (by kernel_rfl) (by kernel_rfl) (by kernel_rfl) (by kernel_rfl) (by kernel_rfl) (by kernel_rfl) (by kernel_rfl) (fun _ _ _ h => h) (Or.inl ⟨by rfl, ?yfb28⟩) ⟨till_hold hs1.out, till_hold trivial⟩ (fun _ => ?rfb28)
                        case yfb28 => (intro wS hSw; (try dsimp only at hSw); go_split_ands; go_simp <;> with_reducible rfl)
                        (try simp only [Act.put, List.setIfInBounds_toArray, List.set_cons_zero, List.set_cons_succ])
                        refine till_ready (i := 29) (o := _) (by kernel_rfl) rfl (fun K hK => ?_)
                        go_simp
                        refine hK.out _ _ ⟨till_gone (by kernel_rfl), till_gone (by kernel_rfl)⟩ ?_
                        clear hK K
                        (try simp only [Act.put, List.setIfInBounds_toArray, List.set_cons_zero, List.set_cons_succ])
                        refine till_done (by kernel_rfl) ?_ _
                        go_wp2
                        go_roundw
                        case rel =>
                          refine ⟨bb + 1, by omega, by go_num, ((HT.out.set ha1 hb1 (E aa bb)).drewN 1).congr (fun i j _ _ => ?_), (HB.out.setCell (p := ⟨f aa, bb, none⟩) (HT.out.hf aa ha1).1 (.int .i64 (E aa bb))).drew⟩
                          rw [hE.out]
                          show _ = upd (rlxB E1 cc aa bb) aa bb (if (rlxB E1 cc aa bb) aa cc + (rlxB E1 cc aa bb) cc bb < (rlxB E1 cc aa bb) aa bb then (rlxB E1 cc aa bb) aa cc + (rlxB E1 cc aa bb) cc bb else (rlxB E1 cc aa bb) aa bb) i j
                          rw [← hE.out, if_neg (by have := HG.out; omega)]
                        case measure => simp [intOf]; omega
                    · obtain rfl : bb = k := by omega
                      go_wp2
                      go_roundw
                      case rel => exact ⟨aa + 1, by omega, by go_num, by rw [hE1.out] at hT; exact hT, hB⟩
                      case measure => simp [intOf]; omega
                · obtain rfl : aa = k := by omega
                  go_wp2
                  go_roundw
                  case rel => exact ⟨cc + 1, by omega, by go_num, by rw [hE0.out] at hT; exact hT, hB⟩
                  case measure => simp [intOf]; omega
            · obtain rfl : cc = k := by omega
              go_wp2
              go_ret
              refine ⟨_, rfl, ⟨g, cap, f, c, rfl, ?_⟩, hB⟩
              rw [hD0.out] at hT
              exact hT
end Go.Proofs.Ytjdldmecjhddnaa
