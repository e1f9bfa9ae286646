/- The contracts of keeper.tells, slices.Grow, slices.Concat. -/
import Derived.Test.YtjdldmecjhddnaaK10
import Derived.Lib.AppendZerosOnto
namespace Go.Proofs.Ytjdldmecjhddnaa
open Go.RowKit
set_option linter.unusedVariables false
set_option linter.unusedSimpArgs false

/-- A span can be what a comparison shows. -/
def tellsAt (l : List Off) (x : List (Int × Int)) (i : Nat) : Bool :=
  decide (-1073741824 ≤ (x.getD i (0, 0)).1) && decide ((x.getD i (0, 0)).1 ≤ 1073741824) && decide ((x.getD i (0, 0)).2 = (x.getD i (0, 0)).1 + (l.getD i default).W)
def tellsB (l : List Off) (x : List (Int × Int)) : Bool := decide (l.length = x.length) && (List.range x.length).all (tellsAt l x)
theorem tells_no {l : List Off} {x : List (Int × Int)} {i : Nat} (hi : i < x.length) (h : tellsAt l x i = false) : tellsB l x = false := by
  unfold tellsB
  rw [Bool.and_eq_false_iff]
  refine .inr ?_
  cases e : (List.range x.length).all (tellsAt l x) with
  | false => rfl
  | true => rw [List.all_eq_true.1 e i (List.mem_range.2 hi)] at h; cases h
theorem tells_yes {l : List Off} {x : List (Int × Int)} (hl : l.length = x.length) (h : ∀ i, i < x.length → tellsAt l x i = true) : tellsB l x = true := by
  unfold tellsB
  rw [Bool.and_eq_true]
  exact ⟨by simp [hl], List.all_eq_true.2 (fun i hi => h i (List.mem_range.1 hi))⟩
theorem tells_at {l : List Off} {x : List (Int × Int)} {i : Nat} {s : Int × Int} {o : Off} (hs : x[i]? = some s) (ho : l[i]? = some o) : tellsAt l x i = (decide (-1073741824 ≤ s.1) && decide (s.1 ≤ 1073741824) && decide (s.2 = s.1 + o.W)) := by
  unfold tellsAt
  rw [List.getD_eq_getElem?_getD, hs, List.getD_eq_getElem?_getD, ho]; rfl

set_option maxHeartbeats 2000000 in
set_option maxRecDepth 100000 in
theorem k_tells (l : List Off) (x : List (Int × Int)) (la xa : Option Addr) (ln xn lc xc : Nat) (w : World) (hl : RdO w la l) (hx : RdP w xa x) (hln : l.length = ln) (hxn : x.length = xn) (hll : ln ≤ 9223372036854775807) (hxl : xn ≤ 140737488355328)
    (hw : ∀ o ∈ l, 0 ≤ o.W ∧ o.W ≤ 1048576) :
    Calls Try.prog 100 #[.slice la ln lc, .slice xa xn xc] w fun e w' => e = .returned (.bool (tellsB l x)) ∧ Below w.heap.size w w' := by
  have HW := Lib.hid hw
  clear hw
  by_cases hne : ln = xn
  · subst hne
    have HLN := Lib.hid hln
    have HXN := Lib.hid hxn
    clear hln hxn
    go_enter Try.func100, Try.ntmps100
    go_wp2_with fail
    go_loopw [14] (fun i wr => ∃ k : Nat, k ≤ ln ∧ i = .int .i64 k ∧ Hid (∀ j, j < k → tellsAt l x j = true) ∧ Below w.heap.size w wr) (fun i _ => ln - (intOf i).toNat)
    case atStart => exact ⟨0, Nat.zero_le _, rfl, Lib.hid (fun j h => absurd h (Nat.not_lt_zero _)), Below.refl _ _⟩
    case round =>
      obtain ⟨k, hk1, rfl, hall, hB⟩ := hrel
      by_cases hlt : k < ln
      · obtain ⟨b, off, s, rfl, hs, q0, q1⟩ := (hx.below hB).atp (i := k) (by rw [HXN.out]; exact hlt)
        obtain ⟨b2, off2, o, rfl, ho, p0, p1, p2, p3⟩ := (hl.below hB).ato (i := k) (by rw [HLN.out]; exact hlt)
        obtain ⟨w0, w1⟩ := HW.out o (List.mem_of_getElem? ho)
        have HT := Lib.hid (tells_at hs ho)
        obtain ⟨lo, hi⟩ := s
        simp only at q0 q1 HT
        have hbs := World.block_lt_of_cell? wr _ p0
        simp only at hbs
        clear hs ho
        by_cases h1 : lo < -1073741824
        · have d1 : decide (lo < -1073741824) = true := decide_eq_true h1
          have H1 := Lib.hid h1
          clear h1
          go_wp2
          go_quiet (fail)
          go_wp2
          go_ret
          exact ⟨ret_bool (tells_no (i := k) (by rw [HXN.out]; exact hlt) (by rw [HT.out]; have := H1.out; simp; omega)).symm, bdrN (hB.alloc hB.size _) _⟩
        · have d1 : decide (lo < -1073741824) = false := decide_eq_false h1
          by_cases h2 : 1073741824 < lo
          · have d2 : decide (1073741824 < lo) = true := decide_eq_true h2
            have H1 := Lib.hid h2
            clear h1 h2
            go_wp2
            go_quiet (fail)
            go_wp2
            go_ret
            exact ⟨ret_bool (tells_no (i := k) (by rw [HXN.out]; exact hlt) (by rw [HT.out]; have := H1.out; simp; omega)).symm, bdrN (hB.alloc hB.size _) _⟩
          · have d2 : decide (1073741824 < lo) = false := decide_eq_false h2
            have hwr : IntKind.i64.wrap (lo + o.W) = lo + o.W := by rw [IntKind.wrap_i64]; omega
            have H1 := Lib.hid h1
            have H2 := Lib.hid h2
            clear h1 h2
            by_cases h3 : hi = lo + o.W
            · subst h3
              go_wp2
              go_quiet (fail)
              go_wp2
              go_roundw
              case rel =>
                refine ⟨k + 1, by omega, by go_num, Lib.hid (fun j hj => ?_), bdrN (hB.alloc hB.size _) _⟩
                by_cases hjk : j < k
                · exact hall.out j hjk
                · obtain rfl : j = k := by omega
                  have := H1.out; have := H2.out
                  rw [HT.out]; simp; omega
              case measure => simp [intOf]; omega
            · have h3' : (hi != lo + o.W) = true := by rw [bne_iff_ne]; exact h3
              have H3 := Lib.hid h3
              clear h3
              go_wp2
              go_quiet (fail)
              go_wp2
              go_ret
              exact ⟨ret_bool (tells_no (i := k) (by rw [HXN.out]; exact hlt) (by rw [HT.out]; simp [H3.out])).symm, bdrN (hB.alloc hB.size _) _⟩
      · obtain rfl : k = ln := by omega
        go_wp2
        go_ret
        exact ⟨ret_bool (tells_yes (by rw [HLN.out, HXN.out]) (fun i hi => hall.out i (by rw [HXN.out] at hi; exact hi))).symm, hB⟩
  · have hne' : ((ln : Int) != (xn : Int)) = true := by rw [bne_iff_ne]; omega
    have hT := Lib.hid (show tellsB l x = false from by unfold tellsB; rw [hln, hxn]; simp [hne])
    go_enter Try.func100, Try.ntmps100
    go_wp2
    go_ret
    exact ⟨ret_bool hT.out.symm, Below.refl _ _⟩

theorem info_span : (Try.prog.info? 82).map (fun i => (i.zero, i.size, i.bytes)) = some (some (.agg #[.int .i64 0, .int .i64 0]), 2, 16) := by kernel_rfl

theorem run_append_none {P : Program} {w : World} {base n size : Nat} {t ty e : TypeId} {i : TypeInfo} {v : Value} {xs : List Value} (ht : P.underlying t = some (.slice e)) (hi : P.info? e = some i) (hown : w.ownsRow base e size v n xs) (c : Nat) :
    (Builtin.append_ #[t, t] ty #[v, .slice none 0 c]).run P w = .ok v w := by
  rcases hown.2 with ⟨rfl, rfl⟩ | ⟨g, cap, cur, rfl, hbg, hg, hnc, hcm, hcs, htake⟩
  · simp [Builtin.append_, run_underlying ht, sizeOf, typeInfo, hi, Builtin.lenOf, Builtin.firstCells, loadCells, loadCellsFrom]
  · simp [Builtin.append_, run_underlying ht, sizeOf, typeInfo, hi, Builtin.lenOf, Builtin.firstCells, loadCells, loadCellsFrom, hnc, storeCells, Addr.add]
/-- append, its run being known. -/
theorem ap_run {P : Program} {ops : Array Oper} {rest : List Oper} {o : Oper} {a : Act} {Q : Exit → Act → World → Prop} {w w' : World} {s x : Operand} {t tn ty : TypeId} {u v v' : Value} (hgd : o.guard = none)
    (ho : o.op = .call { callee := .builtin .append, args := #[s, x], argTypes := #[t, tn] }) (hty : o.type = ty) (hs : a.eval s = u) (hx : a.eval x = v) (hr : (Builtin.append_ #[t, tn] ty #[u, v]).run P w = .ok v' w')
    (h : wpList P ops Q rest (a.put o.dst v') w') : wpList P ops Q (o :: rest) a w := by
  refine wpList_plain hgd fun K hK => hK _ _ h |> fun hk => ?_
  unfold Oper.wp execOp
  simp only [ho, resolve, invoke, builtin, Sem.run_bind, Sem.run_pure, Result.andThen_ok, List.map_toArray, List.map_cons, List.map_nil, hs, hx, hty, hr]
  exact hk
/-- All elements of a slice, nil or not, appended to a row of the call's own. -/
theorem ap_all {P : Program} {ops : Array Oper} {rest : List Oper} {o : Oper} {a : Act} {Q : Exit → Act → World → Prop} {w : World} (hgd : o.guard = none) (s x : Operand) (t : TypeId)
    (ho : o.op = .call { callee := .builtin .append, args := #[s, x], argTypes := #[t, t] }) (base : Nat) (e : TypeId) (z : Value) (size bytes : Nat)
    (hinfo : (P.info? e).map (fun i => (i.zero, i.size, i.bytes)) = some (some z, size, bytes)) (ht : P.underlying t = some (.slice e)) (hzs : z.cells.size = size) (hsz : 0 < size)
    (v : Value) (n : Nat) (vs : List Value) (hs : a.eval s = v) (hown : w.ownsRow base e size v n vs) {α : Type} {enc : α → List Value} (hk : ∀ x, (enc x).length = size) (h1 : ∀ x, ∀ u ∈ enc x, u.oneCell' = true)
    (ys : List α) (ad : Option Addr) (m c : Nat) (hm : ys.length = m) (hx : a.eval x = .slice ad m c) (hr : Rd enc size w ad ys) (h63 : n + m ≤ maxLen) (hN : (n + m) * bytes ≤ 140737488355328) (hbase : base ≤ w.heap.size)
    (h : ∀ v' w', w'.ownsRow base e size v' (n + m) (vs ++ ys.flatMap enc) → w.grownBy w' v.ownBlock → wpList P ops Q rest (a.put o.dst v') w') :
    wpList P ops Q (o :: rest) a w := by
  obtain ⟨i0, hi, hz0, hz1, hz2⟩ := info_parts hinfo
  subst hm
  cases ad with
  | none =>
    have hy : ys = [] := by
      rcases ys with _ | ⟨y, r⟩
      · rfl
      · obtain ⟨b, off, e, _⟩ := hr (by simp); cases e
    subst hy
    refine ap_run hgd ho rfl hs hx (run_append_none ht hi hown c) (h v w (by simpa using hown) ⟨rfl, rfl, rfl, Nat.le_refl _, fun _ _ _ => rfl⟩)
  | some ad =>
    refine wpList_append_own w hgd s x t ho base e i0 z size bytes ht hi hz0 hz1 hz2 hzs hsz v n vs hs hown ad ys.length c (ys.flatMap enc) hx (flat_len hk ys) (flat_cells hk hr) ?_ h63 hN hbase (fun v' w' h2 h3 _ => h v' w' h2 h3)
    intro u hu
    obtain ⟨y, _, hy⟩ := List.mem_flatMap.1 hu
    exact h1 y u hy

set_option maxHeartbeats 2000000 in
set_option maxRecDepth 100000 in
theorem c_GrowO (n : Nat) (hn : n ≤ 200) (w : World) :
    Calls Try.prog 90 #[.slice none 0 0, .int .i64 n] w fun e w' => ∃ v, e = .returned v ∧ w'.ownsRow w.heap.size 59 4 v 0 [] ∧ Below w.heap.size w w' := by
  obtain ⟨i0, hi, hz0, hz1, hz2⟩ := info_parts info_off
  by_cases hn0 : 0 < n
  · have hrz := Lib.run_append_grow_zeros (P := Try.prog) w 22 3 22 59 i0 (Value.agg #[.int .i64 0, .int .i64 0, .int .i64 0, .int .i64 0]) .i64 .i64 Try.underlying22 Try.underlying3 hi hz0 none 0 0 [] (by rw [hz1]; exact run_firstCells_none w.drew 4 0 0 0) n hn0 (by rw [hz1]; decide) (by omega) (by omega) (by rw [hz2]; omega) (growslice_fits (by omega) (by rw [hz2]; omega))
    simp only [Nat.zero_add] at hrz
    have hG := grownCap_ge w n 0 59
    obtain ⟨G, hGe⟩ : ∃ G, G = grownCap w n 0 59 := ⟨_, rfl⟩
    have hG63 : G ≤ maxLen := by rw [hGe]; exact grownCap_le_maxLen w n 0 59 (by unfold maxLen; omega)
    rw [← hGe] at hrz hG
    have hown := World.ownsRow_made (base := w.heap.size) (e := 59) (size := 4) w.drew (#[] ++ Builtin.zeroCells (Value.agg #[.int .i64 0, .int .i64 0, .int .i64 0, .int .i64 0]).cells n ++ Builtin.zeroCells (Value.agg #[.int .i64 0, .int .i64 0, .int .i64 0, .int .i64 0]).cells (G - n)) G (Nat.le_refl _) hG63 (by
      simp only [Array.size_append, size_zeroCells]
      show 0 + n * 4 + (G - n) * 4 = G * 4
      omega)
    have hbw := (Below.refl w.heap.size w).drew.alloc (Nat.le_refl _) (.cells (#[] ++ Builtin.zeroCells (Value.agg #[.int .i64 0, .int .i64 0, .int .i64 0, .int .i64 0]).cells n ++ Builtin.zeroCells (Value.agg #[.int .i64 0, .int .i64 0, .int .i64 0, .int .i64 0]).cells (G - n)) 59)
    obtain ⟨w9, hw9⟩ : ∃ w9, w9 = w.drew.alloc (.cells (#[] ++ Builtin.zeroCells (Value.agg #[.int .i64 0, .int .i64 0, .int .i64 0, .int .i64 0]).cells n ++ Builtin.zeroCells (Value.agg #[.int .i64 0, .int .i64 0, .int .i64 0, .int .i64 0]).cells (G - n)) 59) := ⟨_, rfl⟩
    rw [← hw9] at hrz hown hbw
    have HRZ := Lib.hid hrz
    have HOWN := Lib.hid (show w9.ownsRow w.heap.size 59 4 (.slice (some ⟨w.heap.size, 0, none⟩) 0 G) 0 [] from hown)
    have hG62 : (G : Int) ≤ 9223372036854775807 := by unfold maxLen at hG63; omega
    clear hi hz0 hz1 hz2 hGe hrz hown hG63 hw9
    go_enter Try.func90, Try.ntmps90
    go_wp2_with (at_builtin; refine ap_run rfl rfl rfl rfl rfl HRZ.out ?_)
    go_ret
    exact ⟨_, rfl, HOWN.out, hbw⟩
  · obtain rfl : n = 0 := by omega
    go_enter Try.func90, Try.ntmps90
    go_wp2
    go_ret
    exact ⟨_, rfl, World.ownsRow_nil _ _ _ _, Below.refl _ _⟩

set_option maxHeartbeats 2000000 in
set_option maxRecDepth 100000 in
theorem c_ConcatO (xs ys : List Off) (B : Nat) (a b : Option Addr) (xn yn ca cb : Nat) (w : World) (hxn : xs.length = xn) (hyn : ys.length = yn) (hb0 : w.cell? ⟨B, 0, none⟩ = some (.slice a xn ca)) (hb1 : w.cell? ⟨B, 1, none⟩ = some (.slice b yn cb))
    (hx : RdO w a xs) (hy : RdO w b ys) (lx : xn ≤ 100) (ly : yn ≤ 100) :
    Calls Try.prog 43 #[.slice (some ⟨B, 0, none⟩) 2 2] w fun e w' => ∃ v, e = .returned v ∧ w'.ownsRow w.heap.size 59 4 v (xs ++ ys).length ((xs ++ ys).flatMap encO) ∧ Below w.heap.size w w' := by
  have HX := Lib.hid hx
  have HY := Lib.hid hy
  have HXN := Lib.hid hxn
  have HYN := Lib.hid hyn
  clear hxn hyn
  go_enter Try.func43, Try.ntmps43
  go_wp2_with fail
  go_loop [3, 11] (fun s i => ∃ k : Nat, k ≤ 2 ∧ i = .int .i64 k ∧ s = .int .i64 ((if k = 0 then 0 else if k = 1 then xn else xn + yn : Nat) : Int)) (fun _ i => 2 - (intOf i).toNat)
  case atStart => exact ⟨0, by omega, rfl, rfl⟩
  case round =>
    obtain ⟨k, hk, rfl, rfl⟩ := hrel
    rcases k with _ | _ | k
    · simp only [if_true]
      go_wp2
      go_round
      case rel => exact ⟨1, by omega, by go_num, by simp⟩
      case measure => simp [intOf]
    · simp only [Nat.zero_add, if_true, Nat.one_ne_zero, if_false]
      go_wp2
      go_round
      case rel => exact ⟨2, by omega, by go_num, by simp⟩
      case measure => simp [intOf]
    · obtain rfl : k = 0 := by omega
      simp only [Nat.zero_add, if_false, show ¬ (1 + 1 = 0) by omega, show ¬ (1 + 1 = 1) by omega]
      go_wp2_with fail
      refine (c_GrowO (xn + yn) (by omega) _).mono ?_
      rintro e w1 ⟨v0, rfl, hown, hB⟩
      go_wp2_with fail
      go_loopw [6, 27] (fun v i wr => ∃ k : Nat, k ≤ 2 ∧ i = .int .i64 k ∧ wr.ownsRow w.heap.size 59 4 v (if k = 0 then ([] : List Off) else if k = 1 then xs else xs ++ ys).length ((if k = 0 then ([] : List Off) else if k = 1 then xs else xs ++ ys).flatMap encO) ∧ Below w.heap.size w wr) (fun _ i _ => 2 - (intOf i).toNat)
      case atStart => exact ⟨0, by omega, rfl, hown, hB⟩
      case round =>
        clear hown hB
        obtain ⟨k, hk, rfl, hown, hB⟩ := hrel
        have c0 := below_cell hB hb0
        have c1 := below_cell hB hb1
        rcases k with _ | _ | k
        · simp only [if_true] at hown
          have hHX := Lib.hid (HX.out.below hB)
          go_wp2_with (at_builtin; refine ap_all rfl _ _ 22 rfl w.heap.size 59 (Value.agg #[.int .i64 0, .int .i64 0, .int .i64 0, .int .i64 0]) 4 32 info_off Try.underlying22 rfl (by decide) _ _ _ rfl hown (enc := encO) (fun _ => rfl) (fun x u hu => by simp only [encO, List.mem_cons, List.not_mem_nil, or_false] at hu; rcases hu with rfl | rfl | rfl | rfl <;> rfl) xs a xn ca HXN.out rfl hHX.out (by rw [List.length_nil]; unfold maxLen; omega) (by rw [List.length_nil]; omega) hB.size ?_; intro v' w2 hown2 hgr)
          go_roundw
          case rel => exact ⟨1, by omega, by go_num, by simpa [HXN.out] using hown2, hB.grown hgr hB.size (fun j e => (hown.lt j e).1)⟩
          case measure => simp [intOf]
        · simp only [Nat.zero_add, if_true, Nat.one_ne_zero, if_false] at hown
          have hHY := Lib.hid (HY.out.below hB)
          rw [HXN.out] at hown
          go_wp2_with (at_builtin; refine ap_all rfl _ _ 22 rfl w.heap.size 59 (Value.agg #[.int .i64 0, .int .i64 0, .int .i64 0, .int .i64 0]) 4 32 info_off Try.underlying22 rfl (by decide) _ _ _ rfl hown (enc := encO) (fun _ => rfl) (fun x u hu => by simp only [encO, List.mem_cons, List.not_mem_nil, or_false] at hu; rcases hu with rfl | rfl | rfl | rfl <;> rfl) ys b yn cb HYN.out rfl hHY.out (by unfold maxLen; omega) (by omega) hB.size ?_; intro v' w2 hown2 hgr)
          go_roundw
          case rel => exact ⟨2, by omega, by go_num, by simpa [HXN.out, HYN.out] using hown2, hB.grown hgr hB.size (fun j e => (hown.lt j e).1)⟩
          case measure => simp [intOf]
        · obtain rfl : k = 0 := by omega
          simp only [Nat.zero_add, if_false, show ¬ (1 + 1 = 0) by omega, show ¬ (1 + 1 = 1) by omega] at hown
          go_wp2
          go_ret
          exact ⟨_, rfl, hown, hB⟩

set_option maxHeartbeats 2000000 in
set_option maxRecDepth 100000 in
theorem c_GrowS (n : Nat) (hn : n ≤ 200) (w : World) :
    Calls Try.prog 115 #[.slice none 0 0, .int .i64 n] w fun e w' => ∃ v, e = .returned v ∧ w'.ownsRow w.heap.size 82 2 v 0 [] ∧ Below w.heap.size w w' := by
  obtain ⟨i0, hi, hz0, hz1, hz2⟩ := info_parts info_span
  by_cases hn0 : 0 < n
  · have hrz := Lib.run_append_grow_zeros (P := Try.prog) w 85 3 85 82 i0 (Value.agg #[.int .i64 0, .int .i64 0]) .i64 .i64 Try.underlying85 Try.underlying3 hi hz0 none 0 0 [] (by rw [hz1]; exact run_firstCells_none w.drew 2 0 0 0) n hn0 (by rw [hz1]; decide) (by omega) (by omega) (by rw [hz2]; omega) (growslice_fits (by omega) (by rw [hz2]; omega))
    simp only [Nat.zero_add] at hrz
    have hG := grownCap_ge w n 0 82
    obtain ⟨G, hGe⟩ : ∃ G, G = grownCap w n 0 82 := ⟨_, rfl⟩
    have hG63 : G ≤ maxLen := by rw [hGe]; exact grownCap_le_maxLen w n 0 82 (by unfold maxLen; omega)
    rw [← hGe] at hrz hG
    have hown := World.ownsRow_made (base := w.heap.size) (e := 82) (size := 2) w.drew (#[] ++ Builtin.zeroCells (Value.agg #[.int .i64 0, .int .i64 0]).cells n ++ Builtin.zeroCells (Value.agg #[.int .i64 0, .int .i64 0]).cells (G - n)) G (Nat.le_refl _) hG63 (by
      simp only [Array.size_append, size_zeroCells]
      show 0 + n * 2 + (G - n) * 2 = G * 2
      omega)
    have hbw := (Below.refl w.heap.size w).drew.alloc (Nat.le_refl _) (.cells (#[] ++ Builtin.zeroCells (Value.agg #[.int .i64 0, .int .i64 0]).cells n ++ Builtin.zeroCells (Value.agg #[.int .i64 0, .int .i64 0]).cells (G - n)) 82)
    obtain ⟨w9, hw9⟩ : ∃ w9, w9 = w.drew.alloc (.cells (#[] ++ Builtin.zeroCells (Value.agg #[.int .i64 0, .int .i64 0]).cells n ++ Builtin.zeroCells (Value.agg #[.int .i64 0, .int .i64 0]).cells (G - n)) 82) := ⟨_, rfl⟩
    rw [← hw9] at hrz hown hbw
    have HRZ := Lib.hid hrz
    have HOWN := Lib.hid (show w9.ownsRow w.heap.size 82 2 (.slice (some ⟨w.heap.size, 0, none⟩) 0 G) 0 [] from hown)
    have hG62 : (G : Int) ≤ 9223372036854775807 := by unfold maxLen at hG63; omega
    clear hi hz0 hz1 hz2 hGe hrz hown hG63 hw9
    go_enter Try.func115, Try.ntmps115
    go_wp2_with (at_builtin; refine ap_run rfl rfl rfl rfl rfl HRZ.out ?_)
    go_ret
    exact ⟨_, rfl, HOWN.out, hbw⟩
  · obtain rfl : n = 0 := by omega
    go_enter Try.func115, Try.ntmps115
    go_wp2
    go_ret
    exact ⟨_, rfl, World.ownsRow_nil _ _ _ _, Below.refl _ _⟩

set_option maxHeartbeats 2000000 in
set_option maxRecDepth 100000 in
theorem c_ConcatS (xs ys : List (Int × Int)) (B : Nat) (a b : Option Addr) (xn yn ca cb : Nat) (w : World) (hxn : xs.length = xn) (hyn : ys.length = yn) (hb0 : w.cell? ⟨B, 0, none⟩ = some (.slice a xn ca)) (hb1 : w.cell? ⟨B, 1, none⟩ = some (.slice b yn cb))
    (hx : RdP w a xs) (hy : RdP w b ys) (lx : xn ≤ 100) (ly : yn ≤ 100) :
    Calls Try.prog 102 #[.slice (some ⟨B, 0, none⟩) 2 2] w fun e w' => ∃ v, e = .returned v ∧ w'.ownsRow w.heap.size 82 2 v (xs ++ ys).length ((xs ++ ys).flatMap encP) ∧ Below w.heap.size w w' := by
  have HX := Lib.hid hx
  have HY := Lib.hid hy
  have HXN := Lib.hid hxn
  have HYN := Lib.hid hyn
  clear hxn hyn
  go_enter Try.func102, Try.ntmps102
  go_wp2_with fail
  go_loop [3, 11] (fun s i => ∃ k : Nat, k ≤ 2 ∧ i = .int .i64 k ∧ s = .int .i64 ((if k = 0 then 0 else if k = 1 then xn else xn + yn : Nat) : Int)) (fun _ i => 2 - (intOf i).toNat)
  case atStart => exact ⟨0, by omega, rfl, rfl⟩
  case round =>
    obtain ⟨k, hk, rfl, rfl⟩ := hrel
    rcases k with _ | _ | k
    · simp only [if_true]
      go_wp2
      go_round
      case rel => exact ⟨1, by omega, by go_num, by simp⟩
      case measure => simp [intOf]
    · simp only [Nat.zero_add, if_true, Nat.one_ne_zero, if_false]
      go_wp2
      go_round
      case rel => exact ⟨2, by omega, by go_num, by simp⟩
      case measure => simp [intOf]
    · obtain rfl : k = 0 := by omega
      simp only [Nat.zero_add, if_false, show ¬ (1 + 1 = 0) by omega, show ¬ (1 + 1 = 1) by omega]
      go_wp2_with fail
      refine (c_GrowS (xn + yn) (by omega) _).mono ?_
      rintro e w1 ⟨v0, rfl, hown, hB⟩
      go_wp2_with fail
      go_loopw [6, 27] (fun v i wr => ∃ k : Nat, k ≤ 2 ∧ i = .int .i64 k ∧ wr.ownsRow w.heap.size 82 2 v (if k = 0 then ([] : List (Int × Int)) else if k = 1 then xs else xs ++ ys).length ((if k = 0 then ([] : List (Int × Int)) else if k = 1 then xs else xs ++ ys).flatMap encP) ∧ Below w.heap.size w wr) (fun _ i _ => 2 - (intOf i).toNat)
      case atStart => exact ⟨0, by omega, rfl, hown, hB⟩
      case round =>
        clear hown hB
        obtain ⟨k, hk, rfl, hown, hB⟩ := hrel
        have c0 := below_cell hB hb0
        have c1 := below_cell hB hb1
        rcases k with _ | _ | k
        · simp only [if_true] at hown
          have hHX := Lib.hid (HX.out.below hB)
          go_wp2_with (at_builtin; refine ap_all rfl _ _ 85 rfl w.heap.size 82 (Value.agg #[.int .i64 0, .int .i64 0]) 2 16 info_span Try.underlying85 rfl (by decide) _ _ _ rfl hown (enc := encP) (fun _ => rfl) (fun x u hu => by simp only [encP, List.mem_cons, List.not_mem_nil, or_false] at hu; rcases hu with rfl | rfl <;> rfl) xs a xn ca HXN.out rfl hHX.out (by rw [List.length_nil]; unfold maxLen; omega) (by rw [List.length_nil]; omega) hB.size ?_; intro v' w2 hown2 hgr)
          go_roundw
          case rel => exact ⟨1, by omega, by go_num, by simpa [HXN.out] using hown2, hB.grown hgr hB.size (fun j e => (hown.lt j e).1)⟩
          case measure => simp [intOf]
        · simp only [Nat.zero_add, if_true, Nat.one_ne_zero, if_false] at hown
          have hHY := Lib.hid (HY.out.below hB)
          rw [HXN.out] at hown
          go_wp2_with (at_builtin; refine ap_all rfl _ _ 85 rfl w.heap.size 82 (Value.agg #[.int .i64 0, .int .i64 0]) 2 16 info_span Try.underlying85 rfl (by decide) _ _ _ rfl hown (enc := encP) (fun _ => rfl) (fun x u hu => by simp only [encP, List.mem_cons, List.not_mem_nil, or_false] at hu; rcases hu with rfl | rfl <;> rfl) ys b yn cb HYN.out rfl hHY.out (by unfold maxLen; omega) (by omega) hB.size ?_; intro v' w2 hown2 hgr)
          go_roundw
          case rel => exact ⟨2, by omega, by go_num, by simpa [HXN.out, HYN.out] using hown2, hB.grown hgr hB.size (fun j e => (hown.lt j e).1)⟩
          case measure => simp [intOf]
        · obtain rfl : k = 0 := by omega
          simp only [Nat.zero_add, if_false, show ¬ (1 + 1 = 0) by omega, show ¬ (1 + 1 = 1) by omega] at hown
          go_wp2
          go_ret
          exact ⟨_, rfl, hown, hB⟩
end Go.Proofs.Ytjdldmecjhddnaa
