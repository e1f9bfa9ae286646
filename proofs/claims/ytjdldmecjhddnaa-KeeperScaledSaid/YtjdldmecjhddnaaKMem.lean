/- How this seat's data lie in memory: slices that are read, tables of the call's own. No program in sight. -/
import Derived.WalkKit
import Derived.Below
import Derived.Lib.Hide
import Derived.Deep.Draws
import Derived.Laws.BitsLemmas
import Derived.Maps.AppendAt
import Derived.OwnWalk
import Derived.Deep.OwnRows
import Derived.Test.YtjdldmecjhddnaaKPure
namespace Go.Proofs.Ytjdldmecjhddnaa
open Go.RowKit
set_option linter.unusedVariables false
set_option linter.unusedSimpArgs false

theorem ret_bool {a b : Bool} (h : a = b) : Ending.returned (.bool a) = .returned (.bool b) := by rw [h]
theorem ret_int {a b : Int} (h : a = b) : Ending.returned (.int .i64 a) = .returned (.int .i64 b) := by rw [h]
theorem bdrN {B : Nat} {w W : World} (h : Below B w W) (n : Nat) : Below B w (W.drewN n) := ⟨h.os, h.tape, h.output, h.size, h.block⟩
theorem bal {w W : World} (h : Below w.heap.size w W) (o : Obj) : Below w.heap.size w (W.alloc o) := h.alloc h.size o
theorem below_cell {w w' : World} (h : Below w.heap.size w w') {a : Addr} {v : Value} (hc : w.cell? a = some v) : w'.cell? a = some v := (h.cell (World.block_lt_of_cell? w a hc)).trans hc
theorem cal {w : World} {a : Addr} {v : Value} (h : w.cell? a = some v) (o : Obj) : (w.alloc o).cell? a = some v := below_cell ((Below.refl _ _).alloc (Nat.le_refl _) o) h
theorem cdr {w : World} {a : Addr} {v : Value} (h : w.cell? a = some v) (n : Nat) : (w.drewN n).cell? a = some v := below_cell (bdrN (Below.refl _ _) n) h
theorem below_then {B : Nat} {w w1 w2 : World} (h : Below B w w1) (hB : B ≤ w1.heap.size) (k : Below w1.heap.size w1 w2) : Below B w w2 := h.trans (k.mono hB)
theorem bthen {w w1 w2 : World} (h : Below w.heap.size w w1) (k : Below w1.heap.size w1 w2) : Below w.heap.size w w2 := h.trans (k.mono h.size)

/-! ### Bits -/
theorem i64_nat (a b : Nat) (ha : a < 4611686018427387904) (hb : b < 4611686018427387904) : Go.bits .and .i64 a b = ((a &&& b : Nat) : Int) ∧ Go.bits .or .i64 a b = ((a ||| b : Nat) : Int) :=
  bits_nat .i64 62 (by decide) (fun n h0 h1 => by
    have h1' : n < 4611686018427387904 := by simpa using h1
    rw [IntKind.wrap_i64]; omega) a b (by simpa using ha) (by simpa using hb)
theorem bit_test (s k : Nat) (hs : s < 4611686018427387904) : (Go.bits .and .i64 ((s : Int) / 2 ^ k) 1 == 1) = s.testBit k := by
  have e : ((s : Int) / 2 ^ k) = ((s / 2 ^ k : Nat) : Int) := by simp
  have e1 : (1 : Int) = ((1 : Nat) : Int) := rfl
  have hq : s / 2 ^ k < 4611686018427387904 := Nat.lt_of_le_of_lt (Nat.div_le_self _ _) hs
  rw [e, e1, (i64_nat (s / 2 ^ k) 1 hq (by omega)).1, Nat.testBit_eq_decide_div_mod_eq, Nat.and_one_is_mod]
  rcases Nat.mod_two_eq_zero_or_one (s / 2 ^ k) with h | h <;> rw [h] <;> rfl

theorem bit_or (s y : Nat) (hs : s < 4611686018427387904) (hy : y < 12) : Go.bits .or .i64 (s : Int) (wrap64 (2 ^ y)) = ((s ||| (1 <<< y) : Nat) : Int) := by
  have hp : 2 ^ y < 4096 := by
    have : 2 ^ y < 2 ^ 12 := Nat.pow_lt_pow_right (by decide) hy
    omega
  have e : wrap64 (2 ^ y) = ((2 ^ y : Nat) : Int) := by
    have : ((2 : Int) ^ y) = ((2 ^ y : Nat) : Int) := by simp
    rw [this]
    generalize 2 ^ y = z at hp
    unfold wrap64; omega
  rw [e, (i64_nat s (2 ^ y) hs (by omega)).2, Nat.one_shiftLeft]

/-! ### A slice that is read -/
/-- The slice at a reads as xs: each element takes k cells. -/
def Rd {α : Type} (enc : α → List Value) (k : Nat) (w : World) (a : Option Addr) (xs : List α) : Prop :=
  xs ≠ [] → ∃ b off, a = some ⟨b, off, none⟩ ∧ ∀ i x, xs[i]? = some x → ∀ j v, (enc x)[j]? = some v → w.cell? ⟨b, off + i * k + j, none⟩ = some v
theorem Rd.below {α : Type} {enc : α → List Value} {k : Nat} {w w' : World} {a : Option Addr} {xs : List α} (h : Rd enc k w a xs) (hb : Below w.heap.size w w') : Rd enc k w' a xs := by
  intro hne
  obtain ⟨b, off, e, hc⟩ := h hne
  exact ⟨b, off, e, fun i x hx j v hv => below_cell hb (hc i x hx j v hv)⟩
theorem Rd.nil {α : Type} {enc : α → List Value} {k : Nat} {w : World} {a : Option Addr} : Rd enc k w a ([] : List α) := fun h => absurd rfl h
theorem Rd.at {α : Type} {enc : α → List Value} {k : Nat} {w : World} {a : Option Addr} {xs : List α} (h : Rd enc k w a xs) {i : Nat} (hi : i < xs.length) :
    ∃ b off x, a = some ⟨b, off, none⟩ ∧ xs[i]? = some x ∧ ∀ j v, (enc x)[j]? = some v → w.cell? ⟨b, off + i * k + j, none⟩ = some v := by
  obtain ⟨b, off, e, hc⟩ := h (by intro e; rw [e] at hi; simp at hi)
  exact ⟨b, off, xs[i], e, by simp [hi], hc i _ (by simp [hi])⟩
def encI (x : Int) : List Value := [.int .i64 x]
def encO (o : Off) : List Value := [.int .i64 o.A, .int .i64 o.B, .int .i64 o.C, .int .i64 o.W]
def encP (p : Int × Int) : List Value := [.int .i64 p.1, .int .i64 p.2]
abbrev RdI := Rd encI 1
abbrev RdO := Rd encO 4
abbrev RdP := Rd encP 2
theorem Rd.ati {w : World} {a : Option Addr} {xs : List Int} (h : RdI w a xs) {i : Nat} (hi : i < xs.length) :
    ∃ b off x, a = some ⟨b, off, none⟩ ∧ xs[i]? = some x ∧ w.cell? ⟨b, off + i, none⟩ = some (.int .i64 x) := by
  obtain ⟨b, off, x, e, hx, hc⟩ := h.at hi
  exact ⟨b, off, x, e, hx, by have := hc 0 _ rfl; simpa using this⟩
theorem Rd.ato {w : World} {a : Option Addr} {xs : List Off} (h : RdO w a xs) {i : Nat} (hi : i < xs.length) :
    ∃ b off x, a = some ⟨b, off, none⟩ ∧ xs[i]? = some x ∧ w.cell? ⟨b, off + i * 4, none⟩ = some (.int .i64 x.A) ∧ w.cell? ⟨b, off + i * 4 + 1, none⟩ = some (.int .i64 x.B) ∧
      w.cell? ⟨b, off + i * 4 + 2, none⟩ = some (.int .i64 x.C) ∧ w.cell? ⟨b, off + i * 4 + 3, none⟩ = some (.int .i64 x.W) := by
  obtain ⟨b, off, x, e, hx, hc⟩ := h.at hi
  exact ⟨b, off, x, e, hx, by have := hc 0 _ rfl; simpa using this, hc 1 _ rfl, hc 2 _ rfl, hc 3 _ rfl⟩
theorem Rd.atp {w : World} {a : Option Addr} {xs : List (Int × Int)} (h : RdP w a xs) {i : Nat} (hi : i < xs.length) :
    ∃ b off x, a = some ⟨b, off, none⟩ ∧ xs[i]? = some x ∧ w.cell? ⟨b, off + i * 2, none⟩ = some (.int .i64 x.1) ∧ w.cell? ⟨b, off + i * 2 + 1, none⟩ = some (.int .i64 x.2) := by
  obtain ⟨b, off, x, e, hx, hc⟩ := h.at hi
  exact ⟨b, off, x, e, hx, by have := hc 0 _ rfl; simpa using this, hc 1 _ rfl⟩

theorem flat_len {α : Type} {enc : α → List Value} {k : Nat} (hk : ∀ x, (enc x).length = k) (xs : List α) : (xs.flatMap enc).length = xs.length * k := by
  induction xs with
  | nil => simp
  | cons x r ih => rw [List.flatMap_cons, List.length_append, hk, ih, List.length_cons, Nat.succ_mul, Nat.add_comm]
theorem flat_at {α : Type} {enc : α → List Value} {k : Nat} (hk : ∀ x, (enc x).length = k) : ∀ (xs : List α) (j : Nat) (u : Value), (xs.flatMap enc)[j]? = some u → ∃ i x t, xs[i]? = some x ∧ (enc x)[t]? = some u ∧ j = i * k + t := by
  intro xs
  induction xs with
  | nil => intro j u h; simp at h
  | cons x r ih =>
    intro j u h
    rw [List.flatMap_cons] at h
    rcases Nat.lt_or_ge j k with h' | h'
    · rw [List.getElem?_append_left (by rw [hk]; exact h')] at h
      exact ⟨0, x, j, rfl, h, by simp⟩
    · rw [List.getElem?_append_right (by rw [hk]; exact h'), hk] at h
      obtain ⟨i, y, t, h1, h2, h3⟩ := ih _ _ h
      exact ⟨i + 1, y, t, by simpa using h1, h2, by rw [Nat.succ_mul]; omega⟩
theorem flat_cells {α : Type} {enc : α → List Value} {k : Nat} (hk : ∀ x, (enc x).length = k) {w : World} {ad : Addr} {xs : List α} (h : Rd enc k w (some ad) xs) : ∀ j u, (xs.flatMap enc)[j]? = some u → w.cell? (ad.add j) = some u := by
  intro j u hu
  obtain ⟨i, x, t, h1, h2, rfl⟩ := flat_at hk xs j u hu
  obtain ⟨b, off, e, hc⟩ := h (by intro e; rw [e] at h1; simp at h1)
  injection e with e
  subst e
  have : (⟨b, off, none⟩ : Addr).add (i * k + t) = ⟨b, off + i * k + t, none⟩ := by rw [Addr.add_lit, Nat.add_assoc]
  rw [this]
  exact hc i x h1 t u h2

/-! ### A row of the call's own, read -/
theorem own_rd {α : Type} {enc : α → List Value} {k : Nat} (hk : ∀ x, (enc x).length = k) {w : World} {base : Nat} {e : TypeId} {v : Value} {xs : List α}
    (h : w.ownsRow base e k v xs.length (xs.flatMap enc)) : ∃ a c, v = .slice a xs.length c ∧ Rd enc k w a xs := by
  rcases h.2 with ⟨rfl, h0⟩ | ⟨g, cap, cur, rfl, hb, hh, hc, hm, hs, ht⟩
  · refine ⟨none, 0, by rw [h0], fun hne => absurd (List.length_eq_zero_iff.1 h0) hne⟩
  · refine ⟨_, _, rfl, fun _ => ⟨g, 0, rfl, fun i x hx j u hj => ?_⟩⟩
    have hi : i < xs.length := by
      rcases Nat.lt_or_ge i xs.length with h' | h'
      · exact h'
      · rw [List.getElem?_eq_none h'] at hx; cases hx
    have hjk : j < k := by
      rcases Nat.lt_or_ge j k with h' | h'
      · exact h'
      · rw [List.getElem?_eq_none (by rw [hk]; exact h')] at hj; cases hj
    have hfm : ∀ (xs : List α) (i : Nat) (x : α), xs[i]? = some x → (xs.flatMap enc)[i * k + j]? = some u ∨ ¬ (enc x)[j]? = some u := by
      intro xs
      induction xs with
      | nil => intro i x hx; simp at hx
      | cons y r ih =>
        intro i x hx
        by_cases hj' : (enc x)[j]? = some u
        · left
          cases i with
          | zero =>
            obtain rfl : y = x := by simpa using hx
            rw [List.flatMap_cons, List.getElem?_append_left (by rw [hk]; omega)]
            simpa using hj'
          | succ i =>
            rw [List.flatMap_cons, List.getElem?_append_right (by rw [hk, Nat.succ_mul]; omega)]
            have := ih i x (by simpa using hx)
            rcases this with h1 | h1
            · rw [← h1]; congr 1; rw [hk, Nat.succ_mul]; omega
            · exact absurd hj' h1
        · exact .inr hj'
    have h1 : (xs.flatMap enc)[i * k + j]? = some u := by
      rcases hfm xs i x hx with h1 | h1
      · exact h1
      · exact absurd hj h1
    rw [← ht, List.getElem?_take] at h1
    split at h1
    · rw [cell_of_row w g _ cur e (0, 0) hh]; simpa using h1
    · cases h1
theorem flat_encI (xs : List Int) : xs.flatMap encI = xs.map (Value.int .i64) := by
  induction xs with
  | nil => rfl
  | cons x r ih => simp [encI] at ih ⊢; exact ih
theorem own_rdI {w : World} {base : Nat} {e : TypeId} {v : Value} {xs : List Int} (h : w.ownsRow base e 1 v xs.length (xs.map (Value.int .i64))) : ∃ a c, v = .slice a xs.length c ∧ RdI w a xs :=
  own_rd (enc := encI) (k := 1) (fun _ => rfl) (by rw [flat_encI]; exact h)

theorem own_rdb {α : Type} {enc : α → List Value} {k : Nat} (hk : ∀ x, (enc x).length = k) {w : World} {base : Nat} {e : TypeId} {v : Value} {xs : List α}
    (h : w.ownsRow base e k v xs.length (xs.flatMap enc)) : ∃ a c, v = .slice a xs.length c ∧ Rd enc k w a xs ∧ ∀ ad, a = some ad → base ≤ ad.block := by
  obtain ⟨a, c, rfl, hr⟩ := own_rd hk h
  refine ⟨a, c, rfl, hr, fun ad e => ?_⟩
  subst e
  exact (h.lt ad.block rfl).1
theorem Rd.setOther {α : Type} {enc : α → List Value} {k : Nat} {w : World} {a : Option Addr} {xs : List α} (h : Rd enc k w a xs) {p : Addr} (u : Value) (hp : ∀ ad, a = some ad → ad.block ≠ p.block) : Rd enc k (w.setCell p u) a xs := by
  intro hne
  obtain ⟨b, off, e, hc⟩ := h hne
  refine ⟨b, off, e, fun i x hx j v hv => ?_⟩
  rw [World.cell?_setCell_other _ _ _ _ (by intro e2; subst e2; exact hp _ e rfl)]
  exact hc i x hx j v hv

/-! ### One element appended to a row of the call's own -/
theorem ap1 {P : Program} {ops : Array Oper} {rest : List Oper} {o : Oper} {a : Act} {Q : Exit → Act → World → Prop} {w : World} (hgd : o.guard = none) (s x : Operand) (t : TypeId)
    (ho : o.op = .call { callee := .builtin .append, args := #[s, x], argTypes := #[t, t] }) (base : Nat) (e : TypeId) (z : Value) (size bytes : Nat)
    (hinfo : (P.info? e).map (fun i => (i.zero, i.size, i.bytes)) = some (some z, size, bytes)) (ht : P.underlying t = some (.slice e)) (hzs : z.cells.size = size) (hsz : 0 < size) (hbz : 0 < bytes)
    (v : Value) (n : Nat) (xs : List Value) (hs : a.eval s = v) (hown : w.ownsRow base e size v n xs) (news : List Value) (hx : a.eval x = .slice (some ⟨w.heap.size, 0, none⟩) 1 1) (hl : news.length = size)
    (h1 : news.all Value.oneCell' = true) (hN : (n + 1) * bytes ≤ 140737488355328) (hbase : base ≤ w.heap.size)
    (h : ∀ v' w', w'.ownsRow base e size v' (n + 1) (xs ++ news) → w.grownBy w' v.ownBlock → (v'.ownBlock = v.ownBlock ∨ v'.ownBlock = some (w.heap.size + 1)) → v' ≠ .slice none 0 0 → wpList P ops Q rest (a.put o.dst v') w') :
    wpList P ops Q (o :: rest) a (w.alloc (.cells news.toArray e)) := by
  obtain ⟨i0, hi, hz0, hz1, hz2⟩ := info_parts hinfo
  refine wpList_append_own_at _ hgd s x t ho base e i0 z size bytes ht hi hz0 hz1 hz2 hzs hsz v n xs hs (hown.alloc _) ⟨w.heap.size, 0, none⟩ 1 1 news hx (by rw [hl, Nat.one_mul]) ?_ (List.all_eq_true.1 h1) ?_ hN (by simp; omega) ?_
  · intro j u hj
    have : (⟨w.heap.size, 0, none⟩ : Addr).add j = ⟨w.heap.size, j, none⟩ := by unfold Addr.add; split <;> simp_all
    rw [this, World.cell?_alloc_new]
    simpa using hj
  · have : n + 1 ≤ (n + 1) * bytes := Nat.le_mul_of_pos_right _ hbz
    unfold maxLen; omega
  · intro v' w' h2 h3 h4 h5
    refine h v' w' h2 ⟨h3.os, h3.tape, h3.output, ?_, fun k hk hne => ?_⟩ (by simpa using h5) (fun e => by have := h4.1 e; omega)
    · have := h3.size; simp at this; omega
    · rw [h3.block k (by simp; omega) hne]; exact Below.heap_alloc w _ k hk

/-! ### A market -/
def MkRd (w : World) (m : Mk) (v : Value) : Prop :=
  ∃ ka kc oa oc, v = .agg #[.int .i64 m.n, .slice ka m.ks.length kc, .slice oa m.os.length oc] ∧ RdO w ka m.ks ∧ RdO w oa m.os ∧ m.ks.length ≤ 9223372036854775807 ∧ m.os.length ≤ 9223372036854775807
theorem MkRd.below {w w' : World} {m : Mk} {v : Value} (h : MkRd w m v) (hb : Below w.heap.size w w') : MkRd w' m v := by
  obtain ⟨ka, kc, oa, oc, e, h1, h2, h3⟩ := h
  exact ⟨ka, kc, oa, oc, e, h1.below hb, h2.below hb, h3⟩

/-! ### A table of the call's own -/
structure TabF (w : World) (base g : Nat) (f c : Nat → Nat) (n : Nat) (d : Nat → Nat → Int) : Prop where
  hg : base ≤ g
  hf : ∀ a, a < n → base ≤ f a ∧ f a ≠ g
  inj : ∀ a b, a < n → b < n → f a = f b → a = b
  row : ∀ a, a < n → w.cell? ⟨g, a, none⟩ = some (.slice (some ⟨f a, 0, none⟩) n (c a))
  cell : ∀ a b, a < n → b < n → w.cell? ⟨f a, b, none⟩ = some (.int .i64 (d a b))
  free : ∀ a b, a < n → b < n → w.frozen? ⟨f a, b, none⟩ = false
def Tab (w : World) (base : Nat) (v : Value) (n : Nat) (d : Nat → Nat → Int) : Prop :=
  ∃ g cap f c, v = .slice (some ⟨g, 0, none⟩) n cap ∧ TabF w base g f c n d
theorem TabF.set {w : World} {base g : Nat} {f c : Nat → Nat} {n : Nat} {d : Nat → Nat → Int} (h : TabF w base g f c n d) {a b : Nat} (ha : a < n) (hb : b < n) (x : Int) :
    TabF (w.setCell ⟨f a, b, none⟩ (.int .i64 x)) base g f c n (upd d a b x) where
  hg := h.hg
  hf := h.hf
  inj := h.inj
  row := fun i hi => by
    rw [World.cell?_setCell_other]
    · exact h.row i hi
    · intro e; injection e with e1; exact (h.hf a ha).2 e1
  cell := fun i j hi hj => by
    by_cases e : i = a ∧ j = b
    · obtain ⟨rfl, rfl⟩ := e
      rw [World.cell?_setCell_same _ _ _ (h.cell i j hi hj)]
      simp [upd]
    · rw [World.cell?_setCell_other]
      · rw [h.cell i j hi hj]; simp [upd, e]
      · intro e2; injection e2 with e3 e4; exact e ⟨h.inj _ _ hi ha e3.symm, e4.symm⟩
  free := fun i j hi hj => by simp [h.free i j hi hj]
theorem TabF.congr {w : World} {base g : Nat} {f c : Nat → Nat} {n : Nat} {d e : Nat → Nat → Int} (h : TabF w base g f c n d) (he : ∀ a b, a < n → b < n → d a b = e a b) : TabF w base g f c n e :=
  ⟨h.hg, h.hf, h.inj, h.row, fun a b ha hb => by rw [← he a b ha hb]; exact h.cell a b ha hb, h.free⟩
theorem TabF.kept {w w' : World} {base g : Nat} {f c : Nat → Nat} {n : Nat} {d : Nat → Nat → Int} (h : TabF w base g f c n d)
    (hc : ∀ p v, w.cell? p = some v → w'.cell? p = some v) (hz : ∀ p v, w.cell? p = some v → w'.frozen? p = w.frozen? p) : TabF w' base g f c n d :=
  ⟨h.hg, h.hf, h.inj, fun a ha => hc _ _ (h.row a ha), fun a b ha hb => hc _ _ (h.cell a b ha hb), fun a b ha hb => by rw [hz _ _ (h.cell a b ha hb)]; exact h.free a b ha hb⟩
theorem TabF.drewN {w : World} {base g : Nat} {f c : Nat → Nat} {n : Nat} {d : Nat → Nat → Int} (h : TabF w base g f c n d) (q : Nat) : TabF (w.drewN q) base g f c n d :=
  h.kept (fun p v hp => by simpa using hp) (fun p v hp => by simp)
theorem TabF.below {w w' : World} {base g : Nat} {f c : Nat → Nat} {n : Nat} {d : Nat → Nat → Int} (h : TabF w base g f c n d) (hb : Below w.heap.size w w') : TabF w' base g f c n d :=
  h.kept (fun p v hp => below_cell hb hp) (fun p v hp => hb.frozen (World.block_lt_of_cell? w p hp))
theorem TabF.mono {w : World} {base base' g : Nat} {f c : Nat → Nat} {n : Nat} {d : Nat → Nat → Int} (h : TabF w base g f c n d) (hb : base' ≤ base) : TabF w base' g f c n d :=
  ⟨Nat.le_trans hb h.hg, fun a ha => ⟨Nat.le_trans hb (h.hf a ha).1, (h.hf a ha).2⟩, h.inj, h.row, h.cell, h.free⟩
/-- A cell below a table's blocks is not touched by a store into the table. -/
theorem TabF.other {w : World} {base g : Nat} {f c : Nat → Nat} {n : Nat} {d : Nat → Nat → Int} (h : TabF w base g f c n d) {a b : Nat} (ha : a < n) (x : Value) {p : Addr} (hp : p.block < base) {v : Value}
    (hv : w.cell? p = some v) : (w.setCell ⟨f a, b, none⟩ x).cell? p = some v := by
  rw [World.cell?_setCell_other]
  · exact hv
  · intro e; subst e; have := (h.hf a ha).1; simp at hp; omega

/-! ### A table that is being made: k rows are there -/
structure TabP (w : World) (base g : Nat) (f c : Nat → Nat) (n k : Nat) (d : Nat → Nat → Int) : Prop where
  hg : base ≤ g
  out : ∀ a, a < n → ∃ u, w.cell? ⟨g, a, none⟩ = some u
  outz : ∀ a, a < n → w.frozen? ⟨g, a, none⟩ = false
  hf : ∀ a, a < k → base ≤ f a ∧ f a ≠ g
  inj : ∀ a b, a < k → b < k → f a = f b → a = b
  row : ∀ a, a < k → w.cell? ⟨g, a, none⟩ = some (.slice (some ⟨f a, 0, none⟩) n (c a))
  cell : ∀ a b, a < k → b < n → w.cell? ⟨f a, b, none⟩ = some (.int .i64 (d a b))
  free : ∀ a b, a < k → b < n → w.frozen? ⟨f a, b, none⟩ = false
theorem TabP.done {w : World} {base g : Nat} {f c : Nat → Nat} {n : Nat} {d : Nat → Nat → Int} (h : TabP w base g f c n n d) : TabF w base g f c n d :=
  ⟨h.hg, h.hf, h.inj, h.row, h.cell, h.free⟩
theorem TabP.congr {w : World} {base g : Nat} {f c : Nat → Nat} {n k : Nat} {d e : Nat → Nat → Int} (h : TabP w base g f c n k d) (he : ∀ a b, a < k → b < n → d a b = e a b) : TabP w base g f c n k e :=
  ⟨h.hg, h.out, h.outz, h.hf, h.inj, h.row, fun a b ha hb => by rw [← he a b ha hb]; exact h.cell a b ha hb, h.free⟩
theorem TabP.set {w : World} {base g : Nat} {f c : Nat → Nat} {n k : Nat} {d : Nat → Nat → Int} (h : TabP w base g f c n k d) {a b : Nat} (ha : a < k) (hb : b < n) (x : Int) :
    TabP (w.setCell ⟨f a, b, none⟩ (.int .i64 x)) base g f c n k (upd d a b x) where
  hg := h.hg
  hf := h.hf
  inj := h.inj
  out := fun i hi => by
    rw [World.cell?_setCell_other]
    · exact h.out i hi
    · intro e; injection e with e1; exact (h.hf a ha).2 e1
  outz := fun i hi => by simp [h.outz i hi]
  row := fun i hi => by
    rw [World.cell?_setCell_other]
    · exact h.row i hi
    · intro e; injection e with e1; exact (h.hf a ha).2 e1
  cell := fun i j hi hj => by
    by_cases e : i = a ∧ j = b
    · obtain ⟨rfl, rfl⟩ := e
      rw [World.cell?_setCell_same _ _ _ (h.cell i j hi hj)]
      simp [upd]
    · rw [World.cell?_setCell_other]
      · rw [h.cell i j hi hj]; simp [upd, e]
      · intro e2; injection e2 with e3 e4; exact e ⟨h.inj _ _ hi ha e3.symm, e4.symm⟩
  free := fun i j hi hj => by simp [h.free i j hi hj]
theorem TabP.start {w : World} {base g n : Nat} {t : TypeId} {z : Value} (hb : base ≤ g) (h : w.rowIs g t n fun _ => z) (d : Nat → Nat → Int) : TabP w base g (fun _ => 0) (fun _ => 0) n 0 d :=
  ⟨hb, fun a ha => ⟨_, h.cell ha⟩, fun a _ => h.frozen a, fun a ha => absurd ha (Nat.not_lt_zero _), fun a b ha => absurd ha (Nat.not_lt_zero _), fun a ha => absurd ha (Nat.not_lt_zero _), fun a b ha => absurd ha (Nat.not_lt_zero _), fun a b ha => absurd ha (Nat.not_lt_zero _)⟩
/-- A new row, of zeros, is laid into the table. -/
theorem TabP.add {w : World} {base g : Nat} {f c : Nat → Nat} {n k : Nat} {d : Nat → Nat → Int} {t : TypeId} (h : TabP w base g f c n k d) (hk : k < n) (hbase : base ≤ w.heap.size) :
    TabP ((w.alloc (.cells (madeCells #[.int .i64 0] n) t)).setCell ⟨g, k, none⟩ (.slice (some ⟨w.heap.size, 0, none⟩) n n)) base g (fun a => if a = k then w.heap.size else f a) (fun a => if a = k then n else c a) n (k + 1) (fun a b => if a = k then 0 else d a b) := by
  have hgl : g < w.heap.size := by obtain ⟨u, hu⟩ := h.out k hk; exact World.block_lt_of_cell? w _ hu
  have hr := World.rowIs_made w (.int .i64 0) n t
  have hfl : ∀ a, a < k → f a < w.heap.size := fun a ha => World.block_lt_of_cell? w _ (h.cell a k ha hk)
  obtain ⟨u0, hu0⟩ := h.out k hk
  refine ⟨h.hg, fun a ha => ?_, fun a ha => ?_, fun a ha => ?_, fun a b ha hb e => ?_, fun a ha => ?_, fun a b ha hb => ?_, fun a b ha hb => ?_⟩
  · by_cases e : a = k
    · subst e; exact ⟨_, World.cell?_setCell_same _ _ _ (cal hu0 _)⟩
    · obtain ⟨u, hu⟩ := h.out a ha
      refine ⟨u, ?_⟩
      rw [World.cell?_setCell_other _ _ _ _ (by intro e2; injection e2 with _ e3; exact e e3.symm)]
      exact cal hu _
  · have h1 := h.outz a ha
    obtain ⟨u, hu⟩ := h.out a ha
    rw [World.frozen?_setCell, ((Below.refl w.heap.size w).alloc (Nat.le_refl _) _).frozen (p := ⟨g, a, none⟩) hgl]
    exact h1
  · by_cases e : a = k
    · simp only [e, if_true]; exact ⟨hbase, by omega⟩
    · simp only [e, if_false]; exact h.hf a (by omega)
  · by_cases ea : a = k <;> by_cases eb : b = k <;> simp only [ea, eb, if_true, if_false] at e ⊢
    · have := hfl b (by omega); omega
    · have := hfl a (by omega); omega
    · exact h.inj a b (by omega) (by omega) e
  · by_cases e : a = k
    · subst e; simp only [if_true]; exact World.cell?_setCell_same _ _ _ (cal hu0 _)
    · simp only [e, if_false]
      rw [World.cell?_setCell_other _ _ _ _ (by intro e2; injection e2 with _ e3; exact e e3.symm)]
      exact cal (h.row a (by omega)) _
  · by_cases e : a = k
    · simp only [e, if_true]
      rw [World.cell?_setCell_other _ _ _ _ (by intro e2; injection e2 with e3 _; omega)]
      exact hr.cell hb
    · simp only [e, if_false]
      rw [World.cell?_setCell_other _ _ _ _ (by intro e2; injection e2 with e3 _; exact (h.hf a (by omega)).2 e3.symm)]
      exact cal (h.cell a b (by omega) hb) _
  · by_cases e : a = k
    · simp only [e, if_true]
      rw [World.frozen?_setCell]; exact hr.frozen b
    · simp only [e, if_false]
      rw [World.frozen?_setCell, ((Below.refl w.heap.size w).alloc (Nat.le_refl _) _).frozen (p := ⟨f a, b, none⟩) (hfl a (by omega))]
      exact h.free a b (by omega) hb
end Go.Proofs.Ytjdldmecjhddnaa
