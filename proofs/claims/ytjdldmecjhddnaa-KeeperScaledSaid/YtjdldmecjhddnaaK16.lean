/- The contract of keeper.fronts. -/
import Derived.Test.YtjdldmecjhddnaaKSort
import Derived.Test.YtjdldmecjhddnaaKMem4
import Derived.Test.YtjdldmecjhddnaaK10
import Derived.Test.YtjdldmecjhddnaaKM3
namespace Go.Proofs.Ytjdldmecjhddnaa
open Go.RowKit
set_option linter.unusedVariables false
set_option linter.unusedSimpArgs false

theorem info_pair : (Try.prog.info? 54).map (fun i => (i.zero, i.size, i.bytes)) = some (some (.agg #[.int .i64 0, .int .i64 0]), 2, 16) := by kernel_rfl
theorem info_pairs : (Try.prog.info? 48).map (fun i => (i.zero, i.size, i.bytes)) = some (some (.slice none 0 0), 1, 24) := by kernel_rfl
/-- The pairs of the sets below k: what they cost, and the width of a and b then. -/
def prS (m : Mk) (a b : Nat) (k : Nat) : List (Int × Int) := ((List.range k).filter fun s => decide (wd m.n.toNat (comps m (bits 12 s)) a b < 1099511627776)).map fun s => (costL m.os (bits 12 s), wd m.n.toNat (comps m (bits 12 s)) a b)
theorem prS_len (m : Mk) (a b k : Nat) : (prS m a b k).length ≤ k := by
  unfold prS
  rw [List.length_map]
  exact Nat.le_trans (List.length_filter_le _ _) (by simp)
theorem prS_yes {m : Mk} {a b k : Nat} (h : wd m.n.toNat (comps m (bits 12 k)) a b < 1099511627776) : prS m a b (k + 1) = prS m a b k ++ [(costL m.os (bits 12 k), wd m.n.toNat (comps m (bits 12 k)) a b)] := by
  unfold prS
  rw [List.range_succ, List.filter_append, List.map_append, List.filter_cons_of_pos (by simpa using h)]
  simp
theorem prS_no {m : Mk} {a b k : Nat} (h : ¬ wd m.n.toNat (comps m (bits 12 k)) a b < 1099511627776) : prS m a b (k + 1) = prS m a b k := by
  unfold prS
  rw [List.range_succ, List.filter_append, List.map_append, List.filter_cons_of_neg (by simpa using h)]
  simp
theorem flat_snoc (l : List (Int × Int)) (p : Int × Int) : (l ++ [p]).flatMap encP = l.flatMap encP ++ [.int .i64 p.1, .int .i64 p.2] := by simp [encP]
def frontsF (m : Mk) (a : Nat) : Nat → List (Int × Int) := fun b => frontP (prS m a b (2 ^ m.os.length))
/-- What a round of the inner loop leaves. -/
theorem fr_rel {w wr wo w4 : World} {n a j k g : Nat} {f c : Nat → Nat} {D : Nat → Nat → Int} {V : Nat → Value} {m : Mk} {C : Int} {v' : Value} {cs : Array Value} {t : TypeId} (hlt2 : j < n)
    (hF : FrT wr (w.heap.size + 1 + 1) (w.heap.size + 1) n 54 V (fun b => if b < j then prS m a b (k + 1) else prS m a b k)) (hlow : ∀ b, j ≤ b → b < n → ∀ q, (V b).ownBlock = some q → q < wo.heap.size)
    (hT : TabF wr wo.heap.size g f c n D) (hB : Below w.heap.size w wr) (hG : w.heap.size + 1 < wo.heap.size)
    (hp : prS m a j (k + 1) = prS m a j k ++ [(C, D a j)])
    (hown : w4.ownsRow (w.heap.size + 1 + 1) 54 2 v' ((prS m a j k).length + 1) ((prS m a j k).flatMap encP ++ [.int .i64 C, .int .i64 (D a j)])) (hgr : (wr.alloc (.cells cs t)).drew.grownBy w4 (V j).ownBlock)
    (hat : v'.ownBlock = (V j).ownBlock ∨ v'.ownBlock = some (wr.alloc (.cells cs t)).drew.heap.size) :
    (∃ V, FrT (w4.setCell ⟨w.heap.size + 1, j, none⟩ v') (w.heap.size + 1 + 1) (w.heap.size + 1) n 54 V (fun b => if b < j + 1 then prS m a b (k + 1) else prS m a b k) ∧ Hid (∀ b, j + 1 ≤ b → b < n → ∀ q, (V b).ownBlock = some q → q < wo.heap.size)) ∧
    TabF (w4.setCell ⟨w.heap.size + 1, j, none⟩ v') wo.heap.size g f c n D ∧ Below w.heap.size w (w4.setCell ⟨w.heap.size + 1, j, none⟩ v') ∧
    (∀ i u, wr.cell? ⟨w.heap.size, i, none⟩ = some u → (w4.setCell ⟨w.heap.size + 1, j, none⟩ v').cell? ⟨w.heap.size, i, none⟩ = some u) := by
  have hbA : Below wr.heap.size wr (wr.alloc (.cells cs t)).drew := (bal (Below.refl _ _) _).drew
  have hvb : ∀ q, (V j).ownBlock = some q → w.heap.size + 1 + 1 ≤ q := fun q e => ((hF.own j hlt2).lt q e).1
  refine ⟨⟨_, ((hF.below hbA).put (xs := prS m a j k ++ [(C, D a j)]) hlt2 hgr (by rw [flat_snoc, List.length_append]; exact hown) ?_).congr (fun b hb => ?_), Lib.hid (fun b hb hbn q hq => ?_)⟩, ?_, ?_, fun i u hu => ?_⟩
  · rcases hat with h | h
    · exact .inr (.inl h)
    · exact .inr (.inr ⟨_, h, Nat.le_refl _⟩)
  · unfold updF
    show (if b = j then prS m a j k ++ [(C, D a j)] else if b < j then prS m a b (k + 1) else prS m a b k) = _
    by_cases e : b = j
    · subst e; rw [if_pos rfl, if_pos (by omega), hp]
    · rw [if_neg e]
      by_cases e2 : b < j
      · rw [if_pos e2, if_pos (by omega)]
      · rw [if_neg e2, if_neg (by omega)]
  · unfold updF at hq
    rw [if_neg (by omega)] at hq
    exact hlow b (by omega) hbn q hq
  · refine ((hT.below hbA).grown hgr (hlow j (Nat.le_refl _) hlt2)).setOther _ ?_ ?_
    · have := hT.hg; show w.heap.size + 1 ≠ g; omega
    · intro x hx; have := (hT.hf x hx).1; show w.heap.size + 1 ≠ f x; omega
  · exact ((below_then hB hB.size hbA).grown hgr (Nat.le_trans hB.size hbA.size) (fun q e => by have := hvb q e; omega)).setCell (by simp) _
  · rw [World.cell?_setCell_other _ _ _ _ (by intro e; injection e with e _; omega)]
    exact grown_cell hgr (below_cell hbA hu) (by intro e; have := hvb _ e; simp at this; omega)

set_option maxHeartbeats 8000000 in
set_option maxRecDepth 100000 in
theorem k_fronts1 (n a : Nat) (ks os : List Off) (mv : Value) (w : World) (hm : MkRd w ⟨(n : Int), ks, os⟩ mv) (hok : Mk.ok ⟨(n : Int), ks, os⟩ = true) (ha : a < n) :
    Calls Try.prog 85 #[mv, .int .i64 (a : Int)] w fun e w' => ∃ v, e = .returned v ∧ Fr w' w.heap.size 54 v n (frontsF ⟨(n : Int), ks, os⟩ a) ∧ Below w.heap.size w w' := by
  have HM := Lib.hid hm
  obtain ⟨ka, kc, oa, oc, rfl, _⟩ := hm
  have hOK := okM hok
  have h2 : 2 ≤ n := by have := hOK.n2; simp at this; omega
  have h8 : n ≤ 8 := by have := hOK.n8; simp at this; omega
  have HOK := Lib.hid hok
  have hpl := pow_len hok
  have hsh := shl_len os.length hOK.o12
  obtain ⟨N, hN⟩ : ∃ N, N = 2 ^ os.length := ⟨_, rfl⟩
  have hpl : N ≤ 4096 := by rw [hN]; exact hpl
  have hpos : 0 < N := by rw [hN]; exact Nat.two_pow_pos _
  rw [← hN] at hsh
  have HN := Lib.hid hN
  clear hok hOK hN
  have hmk := run_make_row' (P := Try.prog) 44 48 (.slice none 0 0) 24 Try.underlying44 info_pairs rfl .i64 .i64 n (by omega) (by omega)
  have hr := World.rowIs_made (w.alloc (.cells #[.int .i64 (n : Int), .slice ka ks.length kc, .slice oa os.length oc] 24)) (.slice none 0 0) n 48
  have hF0 := FrT.start (e := 54) (base := w.heap.size + 1 + 1) (by simp) hr
  have hB0 := Lib.hid (show Below w.heap.size w ((w.alloc (.cells #[.int .i64 (n : Int), .slice ka ks.length kc, .slice oa os.length oc] 24)).alloc (.cells (madeCells #[.slice none 0 0] n) 48)) from bal (bal (Below.refl _ _) _) _)
  have hc0 : ((w.alloc (.cells #[.int .i64 (n : Int), .slice ka ks.length kc, .slice oa os.length oc] 24)).alloc (.cells (madeCells #[.slice none 0 0] n) 48)).cell? ⟨w.heap.size, 0, none⟩ = some (.int .i64 (n : Int)) := cal (by simp) _
  have hc1 : ((w.alloc (.cells #[.int .i64 (n : Int), .slice ka ks.length kc, .slice oa os.length oc] 24)).alloc (.cells (madeCells #[.slice none 0 0] n) 48)).cell? ⟨w.heap.size, 1, none⟩ = some (.slice ka ks.length kc) := cal (by simp) _
  have hc2 : ((w.alloc (.cells #[.int .i64 (n : Int), .slice ka ks.length kc, .slice oa os.length oc] 24)).alloc (.cells (madeCells #[.slice none 0 0] n) 48)).cell? ⟨w.heap.size, 2, none⟩ = some (.slice oa os.length oc) := cal (by simp) _
  have HC := Lib.hid (And.intro hc0 (And.intro hc1 hc2))
  have hsa : (w.alloc (.cells #[.int .i64 (n : Int), .slice ka ks.length kc, .slice oa os.length oc] 24)).heap.size = w.heap.size + 1 := by simp
  rw [hsa] at hF0
  replace hF0 := Lib.hid hF0
  clear hr hc0 hc1 hc2 hsa
  go_enter Try.func85, Try.ntmps85
  go_wp2_with fail
  (try simp only [hsh])
  clear hsh
  go_loopw [22] (fun i wr => ∃ k : Nat, k ≤ N ∧ i = .int .i64 k ∧ (∃ V, FrT wr (w.heap.size + 1 + 1) (w.heap.size + 1) n 54 V (fun b => prS ⟨(n : Int), ks, os⟩ a b k)) ∧ Hid ((fun w' => w'.cell? ⟨w.heap.size, 0, none⟩ = some (.int .i64 (n : Int)) ∧ w'.cell? ⟨w.heap.size, 1, none⟩ = some (.slice ka ks.length kc) ∧ w'.cell? ⟨w.heap.size, 2, none⟩ = some (.slice oa os.length oc)) wr) ∧ Below w.heap.size w wr) (fun i _ => N - (intOf i).toNat)
  case atStart => exact ⟨0, Nat.zero_le _, rfl, ⟨_, hF0.out⟩, Lib.hid HC.out, hB0.out⟩
  case round =>
    clear hF0 HC hB0
    obtain ⟨k, hk, rfl, ⟨V, hF⟩, hS, hB⟩ := hrel
    by_cases hlt : k < N
    · obtain ⟨wo, rfl⟩ : ∃ wo : World, wo = wr := ⟨_, rfl⟩
      have hG : w.heap.size + 1 < wo.heap.size := World.block_lt_of_cell? wo _ (hF.cell 0 (by omega))
      obtain ⟨m0, m1, m2⟩ := hS.out
      obtain ⟨C, D, hC⟩ : ∃ C D, Hid (C = costL os (bits 12 k) ∧ D = wd n (comps ⟨(n : Int), ks, os⟩ (bits 12 k))) := ⟨_, _, Lib.hid ⟨rfl, rfl⟩⟩
      have hcost : Hid (∀ W, Below w.heap.size w W → Calls Try.prog 74 #[.int .i64 (k : Int), (.agg #[.int .i64 (n : Int), .slice ka ks.length kc, .slice oa os.length oc])] W fun e w' => e = .returned (.int .i64 C) ∧ Below W.heap.size W w') := Lib.hid (fun W hW => by rw [hC.out.1]; exact k_cost k ⟨(n : Int), ks, os⟩ _ W (HM.out.below hW) HOK.out (by rw [HN.out] at hlt; exact hlt))
      have hwid : Hid (∀ W, Below w.heap.size w W → Calls Try.prog 75 #[(.agg #[.int .i64 (n : Int), .slice ka ks.length kc, .slice oa os.length oc]), .int .i64 (k : Int)] W fun e w' => ∃ v, e = .returned v ∧ Tab w' W.heap.size v n D ∧ Below W.heap.size W w') := Lib.hid (fun W hW => by rw [hC.out.2]; exact k_widths k n ks os _ W (HM.out.below hW) HOK.out (by rw [HN.out] at hlt; exact hlt))
      have HF := Lib.hid hF
      clear hF
      go_wp2_with fail
      go_region_held3 (fun w' => w'.cell? ⟨w.heap.size, 0, none⟩ = some (.int .i64 (n : Int)) ∧ w'.cell? ⟨w.heap.size, 1, none⟩ = some (.slice ka ks.length kc) ∧ w'.cell? ⟨w.heap.size, 2, none⟩ = some (.slice oa os.length oc)) (first | go_keep | (go_split_ands; exact ⟨below_cell hb2 ‹_›, below_cell hb2 ‹_›, below_cell hb2 ‹_›⟩) | (go_split_ands; exact ⟨below_cell hb1 ‹_›, below_cell hb1 ‹_›, below_cell hb1 ‹_›⟩) | fail)
        (first
          | (go_at_call 75; refine (hwid.out _ (by exact hB.drew)).mono ?_; rintro e w1 ⟨tv, rfl, ⟨g, cap, f, c, rfl, hT⟩, hb1⟩)
          | (go_at_call 74; refine (hcost.out _ (by exact hB.drew.trans (hb1.mono hB.size))).mono ?_; rintro e w2 ⟨rfl, hb2⟩))
      have hb12 := bthen hb1 hb2
      have hbo : Below wo.heap.size wo w2 := (Below.refl _ _).drew.trans hb12
      have hT2 := Lib.hid (show TabF w2 wo.heap.size g f c n D from hT.below hb2)
      have hB2 := Lib.hid (bthen hB hbo)
      have hF2 := Lib.hid (HF.out.below hbo)
      have hS2 := Lib.hid (show (fun w' => w'.cell? ⟨w.heap.size, 0, none⟩ = some (.int .i64 (n : Int)) ∧ w'.cell? ⟨w.heap.size, 1, none⟩ = some (.slice ka ks.length kc) ∧ w'.cell? ⟨w.heap.size, 2, none⟩ = some (.slice oa os.length oc)) w2 from ⟨below_cell hbo m0, below_cell hbo m1, below_cell hbo m2⟩)
      have hlo : Hid (∀ b, 0 ≤ b → b < n → ∀ q, (V b).ownBlock = some q → q < wo.heap.size) := Lib.hid (fun b _ hb q hq => ((HF.out.own b hb).lt q hq).2)
      clear hb1 hb2 hb12 hT hbo HF hB hS m0 m1 m2 hcost hwid
      go_wp2_with fail
      go_loopw [33] (fun i wr => ∃ j : Nat, j ≤ n ∧ i = .int .i64 j ∧ (∃ V, FrT wr (w.heap.size + 1 + 1) (w.heap.size + 1) n 54 V (fun b => if b < j then prS ⟨(n : Int), ks, os⟩ a b (k + 1) else prS ⟨(n : Int), ks, os⟩ a b k) ∧ Hid (∀ b, j ≤ b → b < n → ∀ q, (V b).ownBlock = some q → q < wo.heap.size)) ∧ TabF wr wo.heap.size g f c n D ∧ Hid ((fun w' => w'.cell? ⟨w.heap.size, 0, none⟩ = some (.int .i64 (n : Int)) ∧ w'.cell? ⟨w.heap.size, 1, none⟩ = some (.slice ka ks.length kc) ∧ w'.cell? ⟨w.heap.size, 2, none⟩ = some (.slice oa os.length oc)) wr) ∧ Below w.heap.size w wr) (fun i _ => n - (intOf i).toNat)
      case atStart => exact ⟨0, Nat.zero_le _, rfl, ⟨V, hF2.out.congr (fun b _ => by simp), hlo⟩, hT2.out, hS2, hB2.out⟩
      case round =>
        clear hF2 hT2 hS2 hB2 hlo
        obtain ⟨j, hj, rfl, ⟨V, hF, hlow⟩, hT, hS, hB⟩ := hrel
        by_cases hlt2 : j < n
        · have h1 := hT.row a ha
          have h2 := hT.cell a j ha hlt2
          have h4 := hF.cell j hlt2
          have h5 := hF.free j hlt2
          by_cases hD2 : D a j < 1099511627776
          · have hsz : w.heap.size + 1 < wr.heap.size := World.block_lt_of_cell? wr _ h4
            have hs1 := Lib.hid (show (fun w' : World => w'.cell? ⟨w.heap.size + 1, j, none⟩ = some (V j) ∧ w'.cell? ⟨g, a, none⟩ = some (.slice (some ⟨f a, 0, none⟩) n (c a)) ∧ w'.cell? ⟨f a, j, none⟩ = some (.int .i64 (D a j))) wr.drew from ⟨cdw h4, cdw h1, cdw h2⟩)
            have hbA := Lib.hid (show Below wr.heap.size wr (wr.alloc (.cells #[.int .i64 C, .int .i64 (D a j)] 54)).drew from (bal (Below.refl _ _) _).drew)
            have hs2 := Lib.hid (show (fun w' : World => w'.cell? ⟨w.heap.size + 1, j, none⟩ = some (V j) ∧ w'.cell? ⟨g, a, none⟩ = some (.slice (some ⟨f a, 0, none⟩) n (c a)) ∧ w'.cell? ⟨f a, j, none⟩ = some (.int .i64 (D a j))) (wr.alloc (.cells #[.int .i64 C, .int .i64 (D a j)] 54)).drew from ⟨below_cell hbA.out h4, below_cell hbA.out h1, below_cell hbA.out h2⟩)
            have hownA := Lib.hid (show (wr.alloc (.cells #[.int .i64 C, .int .i64 (D a j)] 54)).drew.ownsRow (w.heap.size + 1 + 1) 54 2 (V j) (prS ⟨(n : Int), ks, os⟩ a j k).length ((prS ⟨(n : Int), ks, os⟩ a j k).flatMap encP) from own_below (by have := hF.own j hlt2; simp only [if_neg (Nat.lt_irrefl j)] at this; exact this) hbA.out)
            have hnew : Hid (∀ t u, ([.int .i64 C, .int .i64 (D a j)] : List Value)[t]? = some u → (wr.alloc (.cells #[.int .i64 C, .int .i64 (D a j)] 54)).drew.cell? ⟨wr.heap.size, t, none⟩ = some u) := Lib.hid (fun t u hu => by rcases t with _ | _ | t <;> simp at hu ⊢ <;> simp [hu])
            have hz2 := Lib.hid (show (wr.alloc (.cells #[.int .i64 C, .int .i64 (D a j)] 54)).drew.frozen? ⟨w.heap.size + 1, j, none⟩ = false from (hbA.out.frozen (p := ⟨w.heap.size + 1, j, none⟩) hsz).trans h5)
            have HGB : Hid (∀ u : Unit, (V j).ownBlock ≠ some (w.heap.size + 1)) := Lib.hid (fun _ e => by have := ((hF.own j hlt2).lt _ e).1; omega)
            have hln := prS_len ⟨(n : Int), ks, os⟩ a j k
            have HLN := Lib.hid (prS_yes (m := ⟨(n : Int), ks, os⟩) (a := a) (b := j) (k := k) (by rw [hC.out.2] at hD2; exact hD2))
            go_wp2
            refine till_region (T := Till2 [17] (fun w' : World => w'.cell? ⟨w.heap.size + 1, j, none⟩ = some (V j) ∧ w'.cell? ⟨g, a, none⟩ = some (.slice (some ⟨f a, 0, none⟩) n (c a)) ∧ w'.cell? ⟨f a, j, none⟩ = some (.int .i64 (D a j))) [17] (fun _ : World => True)) (by kernel_rfl) ⟨till_hold hs1.out, till_hold trivial⟩ (fun _ => ?_)
            refine till_take1 (i := 0) (v := ?v0) rfl (by kernel_rfl) (by kernel_rfl) (by kernel_rfl) (by kernel_rfl) (by kernel_rfl) (by kernel_rfl) (by kernel_rfl) (fun _ _ _ h => h) (Or.inl ⟨by rfl, ?y0⟩) ⟨till_hold hs1.out, till_hold trivial⟩ (fun _ => ?r0)
            case y0 => (intro wS hSw; (try dsimp only at hSw); go_split_ands; go_simp <;> with_reducible rfl)
            (try simp only [Act.put, List.setIfInBounds_toArray, List.set_cons_zero, List.set_cons_succ])
            refine till_take1 (i := 1) (v := ?v1) rfl (by kernel_rfl) (by kernel_rfl) (by kernel_rfl) (by kernel_rfl) (by kernel_rfl) (by kernel_rfl) (by kernel_rfl) (fun _ _ _ h => h) (Or.inl ⟨by rfl, ?y1⟩) ⟨till_hold hs1.out, till_hold trivial⟩ (fun _ => ?r1)
            case y1 => (intro wS hSw; (try dsimp only at hSw); go_split_ands; go_simp <;> with_reducible rfl)
            (try simp only [Act.put, List.setIfInBounds_toArray, List.set_cons_zero, List.set_cons_succ])
            refine till_take1 (i := 2) (v := ?v2) rfl (by kernel_rfl) (by kernel_rfl) (by kernel_rfl) (by kernel_rfl) (by kernel_rfl) (by kernel_rfl) (by kernel_rfl) (fun _ _ _ h => h) (Or.inl ⟨by rfl, ?y2⟩) ⟨till_hold hs1.out, till_hold trivial⟩ (fun _ => ?r2)
            case y2 => (intro wS hSw; (try dsimp only at hSw); go_split_ands; go_simp <;> with_reducible rfl)
            (try simp only [Act.put, List.setIfInBounds_toArray, List.set_cons_zero, List.set_cons_succ])
            refine till_take1 (i := 3) (v := ?v3) rfl (by kernel_rfl) (by kernel_rfl) (by kernel_rfl) (by kernel_rfl) (by kernel_rfl) (by kernel_rfl) (by kernel_rfl) (fun _ _ _ h => h) (Or.inl ⟨by rfl, ?y3⟩) ⟨till_hold hs1.out, till_hold trivial⟩ (fun _ => ?r3)
            case y3 => (intro wS hSw; (try dsimp only at hSw); go_split_ands; go_simp <;> with_reducible rfl)
            (try simp only [Act.put, List.setIfInBounds_toArray, List.set_cons_zero, List.set_cons_succ])
            refine till_take1 (i := 4) (v := ?v4) rfl (by kernel_rfl) (by kernel_rfl) (by kernel_rfl) (by kernel_rfl) (by kernel_rfl) (by kernel_rfl) (by kernel_rfl) (fun _ _ _ h => h) (Or.inl ⟨by rfl, ?y4⟩) ⟨till_hold hs1.out, till_hold trivial⟩ (fun _ => ?r4)
            case y4 => (intro wS hSw; (try dsimp only at hSw); go_split_ands; go_simp <;> with_reducible rfl)
            (try simp only [Act.put, List.setIfInBounds_toArray, List.set_cons_zero, List.set_cons_succ])
            refine till_take1 (i := 5) (v := ?v5) rfl (by kernel_rfl) (by kernel_rfl) (by kernel_rfl) (by kernel_rfl) (by kernel_rfl) (by kernel_rfl) (by kernel_rfl) (fun _ _ _ h => h) (Or.inl ⟨by rfl, ?y5⟩) ⟨till_hold hs1.out, till_hold trivial⟩ (fun _ => ?r5)
            case y5 => (intro wS hSw; (try dsimp only at hSw); go_split_ands; go_simp <;> with_reducible rfl)
            (try simp only [Act.put, List.setIfInBounds_toArray, List.set_cons_zero, List.set_cons_succ])
            refine till_take1 (i := 6) (v := ?v6) rfl (by kernel_rfl) (by kernel_rfl) (by kernel_rfl) (by kernel_rfl) (by kernel_rfl) (by kernel_rfl) (by kernel_rfl) (fun _ _ _ h => h) (Or.inl ⟨by rfl, ?y6⟩) ⟨till_hold hs1.out, till_hold trivial⟩ (fun _ => ?r6)
            case y6 => (intro wS hSw; (try dsimp only at hSw); go_split_ands; go_simp <;> with_reducible rfl)
            (try simp only [Act.put, List.setIfInBounds_toArray, List.set_cons_zero, List.set_cons_succ])
            refine till_take1 (i := 7) (v := ?v7) rfl (by kernel_rfl) (by kernel_rfl) (by kernel_rfl) (by kernel_rfl) (by kernel_rfl) (by kernel_rfl) (by kernel_rfl) (fun _ _ _ h => h) (Or.inl ⟨by rfl, ?y7⟩) ⟨till_hold hs1.out, till_hold trivial⟩ (fun _ => ?r7)
            case y7 => (intro wS hSw; (try dsimp only at hSw); go_split_ands; go_simp <;> with_reducible rfl)
            (try simp only [Act.put, List.setIfInBounds_toArray, List.set_cons_zero, List.set_cons_succ])
            refine till_take1 (i := 8) (v := ?v8) rfl (by kernel_rfl) (by kernel_rfl) (by kernel_rfl) (by kernel_rfl) (by kernel_rfl) (by kernel_rfl) (by kernel_rfl) (fun _ _ _ h => h) (Or.inl ⟨by rfl, ?y8⟩) ⟨till_hold hs1.out, till_hold trivial⟩ (fun _ => ?r8)
            case y8 => (intro wS hSw; (try dsimp only at hSw); go_split_ands; go_simp <;> with_reducible rfl)
            (try simp only [Act.put, List.setIfInBounds_toArray, List.set_cons_zero, List.set_cons_succ])
            refine till_take1 (i := 9) (v := ?v9) rfl (by kernel_rfl) (by kernel_rfl) (by kernel_rfl) (by kernel_rfl) (by kernel_rfl) (by kernel_rfl) (by kernel_rfl) (fun _ _ _ h => h) (Or.inl ⟨by rfl, ?y9⟩) ⟨till_hold hs1.out, till_hold trivial⟩ (fun _ => ?r9)
            case y9 => (intro wS hSw; (try dsimp only at hSw); go_split_ands; go_simp <;> with_reducible rfl)
            (try simp only [Act.put, List.setIfInBounds_toArray, List.set_cons_zero, List.set_cons_succ])
            refine till_take1 (i := 10) (v := ?v10) rfl (by kernel_rfl) (by kernel_rfl) (by kernel_rfl) (by kernel_rfl) (by kernel_rfl) (by kernel_rfl) (by kernel_rfl) (fun _ _ _ h => h) (Or.inl ⟨by rfl, ?y10⟩) ⟨till_hold hs1.out, till_hold trivial⟩ (fun _ => ?r10)
            case y10 => (intro wS hSw; (try dsimp only at hSw); go_split_ands; go_simp <;> with_reducible rfl)
            (try simp only [Act.put, List.setIfInBounds_toArray, List.set_cons_zero, List.set_cons_succ])
            refine till_take1 (i := 11) (v := ?v11) rfl (by kernel_rfl) (by kernel_rfl) (by kernel_rfl) (by kernel_rfl) (by kernel_rfl) (by kernel_rfl) (by kernel_rfl) (fun _ _ _ h => h) (Or.inl ⟨by rfl, ?y11⟩) ⟨till_hold hs1.out, till_hold trivial⟩ (fun _ => ?r11)
            case y11 => (intro wS hSw; (try dsimp only at hSw); go_split_ands; go_simp <;> with_reducible rfl)
            (try simp only [Act.put, List.setIfInBounds_toArray, List.set_cons_zero, List.set_cons_succ])
            refine till_take1 (i := 12) (v := ?v12) rfl (by kernel_rfl) (by kernel_rfl) (by kernel_rfl) (by kernel_rfl) (by kernel_rfl) (by kernel_rfl) (by kernel_rfl) (fun _ _ _ h => h) (Or.inl ⟨by rfl, ?y12⟩) ⟨till_hold hs1.out, till_hold trivial⟩ (fun _ => ?r12)
            case y12 => (intro wS hSw; (try dsimp only at hSw); go_split_ands; go_simp <;> with_reducible rfl)
            (try simp only [Act.put, List.setIfInBounds_toArray, List.set_cons_zero, List.set_cons_succ])
            refine till_take1 (i := 13) (v := ?v13) rfl (by kernel_rfl) (by kernel_rfl) (by kernel_rfl) (by kernel_rfl) (by kernel_rfl) (by kernel_rfl) (by kernel_rfl) (fun _ _ _ h => h) (Or.inl ⟨by rfl, ?y13⟩) ⟨till_hold hs1.out, till_hold trivial⟩ (fun _ => ?r13)
            case y13 => (intro wS hSw; (try dsimp only at hSw); go_split_ands; go_simp <;> with_reducible rfl)
            (try simp only [Act.put, List.setIfInBounds_toArray, List.set_cons_zero, List.set_cons_succ])
            refine till_take1 (i := 14) (v := ?v14) rfl (by kernel_rfl) (by kernel_rfl) (by kernel_rfl) (by kernel_rfl) (by kernel_rfl) (by kernel_rfl) (by kernel_rfl) (fun _ _ _ h => h) (Or.inl ⟨by rfl, ?y14⟩) ⟨till_hold hs1.out, till_hold trivial⟩ (fun _ => ?r14)
            case y14 => (intro wS hSw; (try dsimp only at hSw); go_split_ands; go_simp <;> with_reducible rfl)
            (try simp only [Act.put, List.setIfInBounds_toArray, List.set_cons_zero, List.set_cons_succ])
            refine till_ready (i := 15) (o := _) (by kernel_rfl) rfl (fun K hK => ?_)
            go_simp
            refine hK.out _ _ ⟨till_hold hs2.out, till_hold trivial⟩ ?_
            clear hK K
            (try simp only [Act.put, List.setIfInBounds_toArray, List.set_cons_zero, List.set_cons_succ])
            refine till_ready (i := 16) (o := _) (by kernel_rfl) rfl (fun K hK => ?_)
            refine step_ap1 rfl _ _ 48 rfl (w.heap.size + 1 + 1) 54 (.agg #[.int .i64 0, .int .i64 0]) 2 16 info_pair Try.underlying48 rfl (by decide) (by decide) (V j) (prS ⟨(n : Int), ks, os⟩ a j k).length ((prS ⟨(n : Int), ks, os⟩ a j k).flatMap encP) rfl hownA.out [.int .i64 C, .int .i64 (D a j)] wr.heap.size rfl rfl ?cA rfl (by omega) (by have := hsz; simp; omega) ?_
            case cA => exact hnew.out
            intro v' w4 hown4 hgr hat
            obtain ⟨va, vc, rfl⟩ := own_form hown4
            have hs3 := Lib.hid (show (fun w' : World => w'.cell? ⟨w.heap.size + 1, j, none⟩ = some (V j) ∧ w'.cell? ⟨g, a, none⟩ = some (.slice (some ⟨f a, 0, none⟩) n (c a)) ∧ w'.cell? ⟨f a, j, none⟩ = some (.int .i64 (D a j))) w4 from ⟨grown_cell hgr hs2.out.1 (HGB.out ()), grown_cell hgr hs2.out.2.1 (fun e => absurd (hlow.out j (Nat.le_refl _) hlt2 _ e) (Nat.not_lt.2 hT.hg)), grown_cell hgr hs2.out.2.2 (fun e => absurd (hlow.out j (Nat.le_refl _) hlt2 _ e) (Nat.not_lt.2 (hT.hf a ha).1))⟩)
            have hz4 : w4.frozen? ⟨w.heap.size + 1, j, none⟩ = false := (grown_frozen hgr (by have := hsz; simp; omega) (HGB.out ())).trans hz2.out
            have hc4 := hs3.out.1
            refine hK.out _ _ ⟨till_hold hs3.out, till_hold trivial⟩ ?_
            clear hK K
            (try simp only [Act.put, List.setIfInBounds_toArray, List.set_cons_zero, List.set_cons_succ])
            refine till_ready (i := 17) (o := _) (by kernel_rfl) rfl (fun K hK => ?_)
            go_simp
            refine hK.out _ _ ⟨till_gone (by kernel_rfl), till_gone (by kernel_rfl)⟩ ?_
            clear hK K
            (try simp only [Act.put, List.setIfInBounds_toArray, List.set_cons_zero, List.set_cons_succ])
            refine till_ready (i := 18) (o := _) (by kernel_rfl) rfl (fun K hK => ?_)
            go_simp
            refine hK.out _ _ ⟨till_gone (by kernel_rfl), till_gone (by kernel_rfl)⟩ ?_
            clear hK K
            (try simp only [Act.put, List.setIfInBounds_toArray, List.set_cons_zero, List.set_cons_succ])
            refine till_done (by kernel_rfl) ?_ _
            go_wp2
            go_roundw
            case rel =>
              obtain ⟨r1, r2, r3, r4⟩ := fr_rel hlt2 hF hlow.out hT hB hG (by rw [HLN.out, hC.out.1, hC.out.2]; rfl) hown4 hgr hat
              exact ⟨j + 1, by omega, by go_num, r1, r2, Lib.hid ⟨r4 _ _ hS.out.1, r4 _ _ hS.out.2.1, r4 _ _ hS.out.2.2⟩, r3⟩
            case measure => simp [intOf]; omega
          · go_wp2
            go_roundw
            case rel =>
              refine ⟨j + 1, by omega, by go_num, ⟨V, hF.congr (fun b _ => ?_), Lib.hid (fun b hb => hlow.out b (by omega))⟩, hT, hS, hB⟩
              by_cases e : b = j
              · subst e
                simp only [if_neg (Nat.lt_irrefl b), if_pos (Nat.lt_succ_self b)]
                exact (prS_no (by rw [hC.out.2] at hD2; exact hD2)).symm
              · by_cases e2 : b < j
                · rw [if_pos e2, if_pos (by omega)]
                · rw [if_neg e2, if_neg (by omega)]
            case measure => simp [intOf]; omega
        · obtain rfl : j = n := by omega
          go_wp2
          go_roundw
          case rel => exact ⟨k + 1, by omega, by go_num, ⟨V, hF.congr (fun b hb => by rw [if_pos hb])⟩, hS, hB⟩
          case measure => simp [intOf]; omega
    · obtain rfl : k = N := by omega
      have HF := Lib.hid hF
      clear hF
      go_wp2_with fail
      go_loopw [66] (fun i wr => ∃ j : Nat, j ≤ n ∧ i = .int .i64 j ∧ (∃ V, FrT wr (w.heap.size + 1 + 1) (w.heap.size + 1) n 54 V (fun b => if b < j then frontP (prS ⟨(n : Int), ks, os⟩ a b k) else prS ⟨(n : Int), ks, os⟩ a b k)) ∧ Below w.heap.size w wr) (fun i _ => n - (intOf i).toNat)
      case atStart => exact ⟨0, Nat.zero_le _, rfl, ⟨V, HF.out.congr (fun b _ => by simp)⟩, hB⟩
      case round =>
        clear HF hS hB
        obtain ⟨j, hj, rfl, ⟨V, hF⟩, hB⟩ := hrel
        by_cases hlt2 : j < n
        · have h4 := hF.cell j hlt2
          have h5 := hF.free j hlt2
          have hG := World.block_lt_of_cell? wr _ h4
          have hown := hF.own j hlt2
          simp only [if_neg (Nat.lt_irrefl j)] at hown
          obtain ⟨X, hX⟩ : ∃ X, Hid (X = prS ⟨(n : Int), ks, os⟩ a j k) := ⟨_, Lib.hid rfl⟩
          have hXl : X.length ≤ 4096 := by rw [hX.out]; exact Nat.le_trans (prS_len _ _ _ _) hpl
          rw [← hX.out] at hown
          obtain ⟨vj, hvj⟩ : ∃ vj, Hid (vj = V j) := ⟨_, Lib.hid rfl⟩
          rw [← hvj.out] at hown h4
          obtain ⟨a0, c0, rfl⟩ := own_form hown
          have HF := Lib.hid hF
          clear hF
          go_wp2_with fail
          refine (c_SortP X _ _ _ hown (by omega)).mono ?_
          rintro e w2 ⟨rfl, hown2, hgr⟩
          have HF2 := Lib.hid (HF.out.turn (xs := sortP X) hlt2 (by rw [← hvj.out]; exact hgr) (by rw [← hvj.out]; exact hown2))
          have hB2 : Below w.heap.size w w2 := hB.grown hgr hB.size (fun q e => by have := (hown.lt q e).1; omega)
          have hsl := sortP_len X
          obtain ⟨S, hS⟩ : ∃ S, Hid (S = sortP X) := ⟨_, Lib.hid rfl⟩
          rw [← hS.out] at hown2 hsl HF2
          obtain ⟨Ln, hLn⟩ : ∃ Ln, Ln = X.length := ⟨_, rfl⟩
          rw [← hLn] at hown2 hsl hXl ⊢
          rw [hsl] at hown2
          have hrd : RdP w2 a0 S := by
            obtain ⟨a1, c1, e1, r1⟩ := own_rd (enc := encP) (k := 2) (fun _ => rfl) (by rw [hsl]; exact hown2)
            injection e1 with e1 _ _
            rw [e1]; exact r1
          have HSL := Lib.hid hsl
          have HLN := Lib.hid hLn
          clear hown hgr h4 h5 hB HF hsl hLn hown2
          go_wp2_with fail
          go_loopw [12, 75] (fun v i wr => ∃ q : Nat, q ≤ Ln ∧ i = .int .i64 q ∧ wr.ownsRow w2.heap.size 54 2 v (swp (S.take q)).length ((swp (S.take q)).flatMap encP) ∧ Below w2.heap.size w2 wr) (fun _ i _ => Ln - (intOf i).toNat)
          case atStart => exact ⟨0, Nat.zero_le _, rfl, World.ownsRow_nil _ _ _ _, Below.refl _ _⟩
          case round =>
            have HRD := Lib.hid hrd
            clear hrd
            obtain ⟨q, hq, rfl, hown, hB3⟩ := hrel
            obtain ⟨bl, hbl⟩ : ∃ bl, Hid (bl = swp (S.take q)) := ⟨_, Lib.hid rfl⟩
            rw [← hbl.out] at hown
            by_cases hlt3 : q < Ln
            · obtain ⟨b, off, p, rfl, hx, q0, q1⟩ := (HRD.out.below hB3).atp (i := q) (by rw [HSL.out]; exact hlt3)
              obtain ⟨p1, p2⟩ := p
              simp only at q0 q1
              have HSW := Lib.hid (show swp (S.take (q + 1)) = swpS bl (p1, p2) from by rw [swp_snoc hx, hbl.out])
              clear hx
              have hbll : bl.length ≤ 4096 := by
                rw [hbl.out]
                have h1 := swp_len (S.take q)
                have h2 : (S.take q).length ≤ q := List.length_take_le _ _
                omega
              have hrb := own_rdb (enc := encP) (k := 2) (fun _ => rfl) hown
              obtain ⟨bn, hbn⟩ : ∃ bn, Hid (bn = bl.length) := ⟨_, Lib.hid rfl⟩
              rw [← hbn.out] at hown hbll hrb
              obtain ⟨ba, bc, rfl, hrb, _⟩ := hrb
              rcases Nat.eq_zero_or_pos bn with hz | hpos2
              · obtain rfl := hz
                clear hrb
                have hsz3 := hB3.size
                go_wp2
                go_quiet (fail)
                go_wp2_with (at_builtin; refine ap1g rfl _ _ 48 rfl w2.heap.size 54 (.agg #[.int .i64 0, .int .i64 0]) 2 16 info_pair Try.underlying48 rfl (by decide) (by decide) _ 0 (bl.flatMap encP) rfl (own_below hown (bal (bdrN (bal (Below.refl _ _) _) _) _)) [.int .i64 p1, .int .i64 p2] (wr.heap.size + 1) rfl rfl (fun t u hu => cnew (by simp) (by simpa using hu)) rfl (by omega) (by have := hsz3; simp; omega) ?_; intro v' w4 hown4 hgr4 hat4)
                go_roundw
                case rel =>
                  have e : swp (S.take (q + 1)) = bl ++ [(p1, p2)] := by rw [HSW.out]; exact if_pos (.inl hbn.out.symm)
                  refine ⟨q + 1, by omega, by go_num, ?_, (below_then hB3 hB3.size (bal (bdrN (bal (Below.refl _ _) _) _) _)).grown hgr4 (by have := hsz3; simp; omega) (fun q e => (hown.lt q e).1)⟩
                  rw [e, flat_snoc, List.length_append, ← hbn.out]; exact hown4
                case measure => simp [intOf]; omega
              · obtain ⟨bm, rfl⟩ : ∃ bm, bn = bm + 1 := ⟨bn - 1, by omega⟩
                obtain ⟨bb, boff, lp, rfl, hlx, l0, l1⟩ := hrb.atp (i := bm) (by rw [← hbn.out]; omega)
                have HL := Lib.hid (show bl.getD (bl.length - 1) (0, 0) = lp from by rw [← hbn.out, List.getD_eq_getElem?_getD, show bm + 1 - 1 = bm from rfl, hlx]; rfl)
                obtain ⟨lp1, lp2⟩ := lp
                simp only at l0 l1
                clear hrb hlx l0
                have hsz3 := hB3.size
                have t1 : (((bm + 1 : Nat) : Int) == 0) = false := by simp; omega
                have t2 : ((bm : Int) + 1 == 0) = false := by simp; omega
                have t3 : IntKind.i64.wrap ((bm : Int) + 1 - 1) = bm := by rw [IntKind.wrap_i64]; omega
                have t4 : (0 : Int) ≤ (bm : Int) := Int.natCast_nonneg _
                have hbb : bb < wr.heap.size := World.block_lt_of_cell? wr _ l1
                have t6 : (bm : Int) < (bm : Int) + 1 := by omega
                have t5 : IntKind.i64.wrap (bm : Int) = bm := by rw [IntKind.wrap_i64]; omega
                by_cases hlt4 : p2 < lp2
                · go_wp2
                  go_quiet (fail)
                  go_wp2_with (at_builtin; refine ap1g rfl _ _ 48 rfl w2.heap.size 54 (.agg #[.int .i64 0, .int .i64 0]) 2 16 info_pair Try.underlying48 rfl (by decide) (by decide) _ (bm + 1) (bl.flatMap encP) rfl (own_below hown (bal (bdrN (bal (Below.refl _ _) _) _) _)) [.int .i64 p1, .int .i64 p2] (wr.heap.size + 1) rfl rfl (fun t u hu => cnew (by simp) (by simpa using hu)) rfl (by omega) (by have := hsz3; simp; omega) ?_; intro v' w4 hown4 hgr4 hat4)
                  go_roundw
                  case rel =>
                    have e : swp (S.take (q + 1)) = bl ++ [(p1, p2)] := by rw [HSW.out]; exact if_pos (.inr (by rw [HL.out]; exact hlt4))
                    refine ⟨q + 1, by omega, by go_num, ?_, (below_then hB3 hB3.size (bal (bdrN (bal (Below.refl _ _) _) _) _)).grown hgr4 (by have := hsz3; simp; omega) (fun q e => (hown.lt q e).1)⟩
                    rw [e, flat_snoc, List.length_append, ← hbn.out]; exact hown4
                  case measure => simp [intOf]; omega
                · go_wp2
                  go_quiet (fail)
                  go_wp2
                  go_roundw
                  case rel =>
                    have e : swp (S.take (q + 1)) = bl := by
                      rw [HSW.out]
                      refine if_neg ?_
                      rintro (h | h)
                      · have := hbn.out; omega
                      · rw [HL.out] at h; simp only at h; omega
                    refine ⟨q + 1, by omega, by go_num, ?_, below_then hB3 hB3.size (bdrN (bal (Below.refl _ _) _) _)⟩
                    rw [e, ← hbn.out]; exact own_below hown (bdrN (bal (Below.refl _ _) _) _)
                  case measure => simp [intOf]; omega
            · obtain rfl : q = Ln := by omega
              have hF3 := HF2.out.below hB3
              have h4 := hF3.cell j hlt2
              have h5 := hF3.free j hlt2
              have hG2 := World.block_lt_of_cell? w2 _ (HF2.out.cell j hlt2)
              have hB4 := bthen hB2 hB3
              obtain ⟨ba, bc, hv⟩ := own_form hown
              have HV := Lib.hid hv
              subst hv
              clear hF3
              go_wp2
              go_roundw
              case rel =>
                refine ⟨j + 1, by omega, by go_num, ⟨_, (HF2.out.put (xs := bl) hlt2 (below_grown hB3 (Nat.le_refl _) _) (hown.mono_base (by simp at hG2; omega)) ?_).congr (fun c hc => ?_)⟩, hB4.setCell (by simp) _⟩
                · cases hob : (Value.slice ba bl.length bc).ownBlock with
                  | none => exact .inl rfl
                  | some x => exact .inr (.inr ⟨x, rfl, (hown.lt x hob).1⟩)
                · unfold updF
                  by_cases e : c = j
                  · subst e
                    rw [if_pos rfl, if_pos (by omega), hbl.out, List.take_of_length_le (by rw [HSL.out]; exact Nat.le_refl _), hS.out, hX.out]
                    rfl
                  · rw [if_neg e, if_neg e]
                    show (if c < j then _ else _) = _
                    by_cases e2 : c < j
                    · rw [if_pos e2, if_pos (by omega)]
                    · rw [if_neg e2, if_neg (by omega)]
              case measure => simp [intOf]; omega
        · obtain rfl : j = n := by omega
          go_wp2
          go_ret
          refine ⟨_, rfl, ⟨_, _, V, rfl, by omega, hF.congr (fun b hb => ?_)⟩, hB⟩
          rw [if_pos hb]
          unfold frontsF
          rw [HN.out]
end Go.Proofs.Ytjdldmecjhddnaa
