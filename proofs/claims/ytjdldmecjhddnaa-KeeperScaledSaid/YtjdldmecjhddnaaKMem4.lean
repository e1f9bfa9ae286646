/- More on rows in memory: one step of a drawn region that appends; rows that are turned in place. No program in sight. -/
import Derived.Test.YtjdldmecjhddnaaKMem3
import Derived.Test.YtjdldmecjhddnaaKRegion
namespace Go.Proofs.Ytjdldmecjhddnaa
open Go.RowKit
set_option linter.unusedVariables false
set_option linter.unusedSimpArgs false

/-- One element appended to a row of the call's own, as one step of a region that draws its order. -/
theorem step_ap1 {P : Program} {ops : Array Oper} {o : Oper} {a : Act} {w : World} {K : Act → World → Prop} {Q : Exit → Act → World → Prop} {E : Prop} (hgd : o.guard = none) (s x : Operand) (t : TypeId)
    (ho : o.op = .call { callee := .builtin .append, args := #[s, x], argTypes := #[t, t] }) (base : Nat) (e : TypeId) (z : Value) (size bytes : Nat)
    (hinfo : (P.info? e).map (fun i => (i.zero, i.size, i.bytes)) = some (some z, size, bytes)) (ht : P.underlying t = some (.slice e)) (hzs : z.cells.size = size) (hsz : 0 < size) (hbz : 0 < bytes)
    (v : Value) (n : Nat) (xs : List Value) (hs : a.eval s = v) (hown : w.ownsRow base e size v n xs) (news : List Value) (B : Nat) (hx : a.eval x = .slice (some ⟨B, 0, none⟩) 1 1) (hl : news.length = size)
    (hcell : ∀ j u, news[j]? = some u → w.cell? ⟨B, j, none⟩ = some u) (h1 : news.all Value.oneCell' = true) (hN : (n + 1) * bytes ≤ 140737488355328) (hbase : base ≤ w.heap.size)
    (h : ∀ v' w', w'.ownsRow base e size v' (n + 1) (xs ++ news) → w.grownBy w' v.ownBlock → (v'.ownBlock = v.ownBlock ∨ v'.ownBlock = some w.heap.size) → K (a.put o.dst v') w') :
    if Region.wanted o (yielded ops a.tmps) = true then Oper.wp P o a w K Q else E := by
  have hw : Region.wanted o (yielded ops a.tmps) = true := by simp [Region.wanted, hgd]
  rw [if_pos hw]
  obtain ⟨i0, hi, hz0, hz1, hz2⟩ := info_parts hinfo
  obtain ⟨v', w', hr, h2, h3, h4, h5⟩ := run_append_own_at (P := P) w base t o.type e i0 z size bytes ht hi hz0 hz1 hz2 hzs hsz v n xs hown ⟨B, 0, none⟩ 1 1 news (by rw [hl, Nat.one_mul])
    (fun j u hj => by
      have : (⟨B, 0, none⟩ : Addr).add j = ⟨B, j, none⟩ := by unfold Addr.add; split <;> simp_all
      rw [this]; exact hcell j u hj) (List.all_eq_true.1 h1)
    (by have : n + 1 ≤ (n + 1) * bytes := Nat.le_mul_of_pos_right _ hbz
        unfold maxLen; omega) hN hbase
  unfold Oper.wp
  simp [execOp, ho, resolve, invoke, builtin, hs, hx, hr, Result.andThen]
  exact h v' w' h2 h3 h5
/-- The same, as one step of a list of operations; the new element's cells lie in a block of their own. -/
theorem ap1g {P : Program} {ops : Array Oper} {rest : List Oper} {o : Oper} {a : Act} {Q : Exit → Act → World → Prop} {w : World} (hgd : o.guard = none) (s x : Operand) (t : TypeId)
    (ho : o.op = .call { callee := .builtin .append, args := #[s, x], argTypes := #[t, t] }) (base : Nat) (e : TypeId) (z : Value) (size bytes : Nat)
    (hinfo : (P.info? e).map (fun i => (i.zero, i.size, i.bytes)) = some (some z, size, bytes)) (ht : P.underlying t = some (.slice e)) (hzs : z.cells.size = size) (hsz : 0 < size) (hbz : 0 < bytes)
    (v : Value) (n : Nat) (xs : List Value) (hs : a.eval s = v) (hown : w.ownsRow base e size v n xs) (news : List Value) (B : Nat) (hx : a.eval x = .slice (some ⟨B, 0, none⟩) 1 1) (hl : news.length = size)
    (hcell : ∀ j u, news[j]? = some u → w.cell? ⟨B, j, none⟩ = some u) (h1 : news.all Value.oneCell' = true) (hN : (n + 1) * bytes ≤ 140737488355328) (hbase : base ≤ w.heap.size)
    (h : ∀ v' w', w'.ownsRow base e size v' (n + 1) (xs ++ news) → w.grownBy w' v.ownBlock → (v'.ownBlock = v.ownBlock ∨ v'.ownBlock = some w.heap.size) → wpList P ops Q rest (a.put o.dst v') w') :
    wpList P ops Q (o :: rest) a w := by
  obtain ⟨i0, hi, hz0, hz1, hz2⟩ := info_parts hinfo
  refine wpList_append_own_at _ hgd s x t ho base e i0 z size bytes ht hi hz0 hz1 hz2 hzs hsz v n xs hs hown ⟨B, 0, none⟩ 1 1 news hx (by rw [hl, Nat.one_mul]) ?_ (List.all_eq_true.1 h1) ?_ hN hbase (fun v' w' h2 h3 _ h5 => h v' w' h2 h3 h5)
  · intro j u hj
    have : (⟨B, 0, none⟩ : Addr).add j = ⟨B, j, none⟩ := by unfold Addr.add; split <;> simp_all
    rw [this]; exact hcell j u hj
  · have : n + 1 ≤ (n + 1) * bytes := Nat.le_mul_of_pos_right _ hbz
    unfold maxLen; omega
variable {w w' : World} {base G n : Nat} {e : TypeId} {V : Nat → Value} {L : Nat → List (Int × Int)}
/-- Row b is turned in place. -/
theorem FrT.turn (h : FrT w base G n e V L) {b : Nat} (hb : b < n) {xs : List (Int × Int)} (hg : w.grownBy w' (V b).ownBlock) (hown : w'.ownsRow base e 2 (V b) xs.length (xs.flatMap encP)) : FrT w' base G n e V (updF L b xs) := by
  have hGb : (V b).ownBlock ≠ some G := fun e => by have := (h.own b hb).lt G e; have := h.hG; omega
  refine ⟨h.hG, fun c hc => grown_cell hg (h.cell c hc) hGb, fun c hc => ?_, fun c hc => ?_, h.sep⟩
  · rw [grown_frozen hg (World.block_lt_of_cell? w ⟨G, c, none⟩ (h.cell c hc)) hGb]; exact h.free c hc
  · unfold updF
    split
    · rename_i e; subst e; exact hown
    · rename_i e; exact h.grown hb hg hc (fun e2 => e e2.symm) (v := V b)
theorem TabF.grown {base g : Nat} {f c : Nat → Nat} {n : Nat} {d : Nat → Nat → Int} (h : TabF w base g f c n d) {row : Option Nat} (hg : w.grownBy w' row) (hr : ∀ q, row = some q → q < base) : TabF w' base g f c n d := by
  have h1 : row ≠ some g := fun e => by have := hr g e; have := h.hg; omega
  have h2 : ∀ a, a < n → row ≠ some (f a) := fun a ha e => by have := hr _ e; have := (h.hf a ha).1; omega
  exact ⟨h.hg, h.hf, h.inj, fun a ha => grown_cell hg (h.row a ha) h1, fun a b ha hb => grown_cell hg (h.cell a b ha hb) (h2 a ha),
    fun a b ha hb => by rw [grown_frozen hg (World.block_lt_of_cell? w ⟨f a, b, none⟩ (h.cell a b ha hb)) (h2 a ha)]; exact h.free a b ha hb⟩
theorem below_grown {B : Nat} (hb : Below B w w') (hB : w.heap.size ≤ B) (row : Option Nat) : w.grownBy w' row := ⟨hb.os, hb.tape, hb.output, hb.size, fun k hk _ => hb.block k (by omega)⟩
theorem grown_below {B : Nat} {row : Option Nat} (h : w.grownBy w' row) (hB : B ≤ w.heap.size) (hr : ∀ q, row = some q → B ≤ q) : Below B w w' :=
  ⟨h.os, h.tape, h.output, h.size, fun k hk => h.block k (by omega) (fun e => by have := hr k e.symm; omega)⟩
theorem own_form {b k m : Nat} {v : Value} {xs : List Value} (h : w.ownsRow b e k v m xs) : ∃ a c, v = .slice a m c := by
  rcases h.2 with ⟨rfl, rfl⟩ | ⟨g, cap, cur, rfl, _⟩
  · exact ⟨_, _, rfl⟩
  · exact ⟨_, _, rfl⟩
/-- A value that holds fronts: one row for each clock. -/
def Fr (w : World) (base : Nat) (e : TypeId) (v : Value) (n : Nat) (L : Nat → List (Int × Int)) : Prop := ∃ G cap V, v = .slice (some ⟨G, 0, none⟩) n cap ∧ base ≤ G ∧ FrT w (G + 1) G n e V L
end Go.Proofs.Ytjdldmecjhddnaa
