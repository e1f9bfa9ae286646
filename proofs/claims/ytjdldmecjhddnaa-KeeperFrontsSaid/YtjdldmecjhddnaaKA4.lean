/- The contracts of slices.IndexFunc, ContainsFunc, Contains of pairs and of lists of pairs, of the laws' before. -/
import Derived.Test.YtjdldmecjhddnaaKA1
import Derived.Test.YtjdldmecjhddnaaKR6
import Derived.Test.YtjdldmecjhddnaaK17
namespace Go.Proofs.Ytjdldmecjhddnaa
open Go.RowKit
set_option linter.unusedVariables false
set_option linter.unusedSimpArgs false

/-- A function of a pair that says p; it lays blocks of its own alone. -/
def WantP (w : World) (fv : Value) (p : Int × Int → Bool) : Prop :=
  ∃ g cb, fv = .func (.func g) #[] cb ∧ Enters Try.prog g ∧
    ∀ (W : World) (q : Int × Int), Below w.heap.size w W → Calls Try.prog g (#[.agg #[.int .i64 q.1, .int .i64 q.2]] ++ cb) W fun e W' => e = .returned (.bool (p q)) ∧ Below W.heap.size W W'
/-- The first of vs of which p speaks. -/
def FirstP (vs : List (Int × Int)) (p : Int × Int → Bool) (r : Int) : Prop :=
  (∃ (k : Nat) (q : Int × Int), r = (k : Nat) ∧ vs[k]? = some q ∧ p q = true ∧ ∀ (j : Nat), j < k → ∀ (q' : Int × Int), vs[j]? = some q' → p q' = false) ∨ (r = -1 ∧ ∀ q ∈ vs, p q = false)
theorem FirstP.any {vs : List (Int × Int)} {p : Int × Int → Bool} {r : Int} (h : FirstP vs p r) : decide (0 ≤ r) = vs.any p := by
  rcases h with ⟨k, q, rfl, h1, h2, _⟩ | ⟨rfl, h1⟩
  · rw [decide_eq_true (by omega)]; exact (List.any_eq_true.2 ⟨q, List.mem_of_getElem? h1, h2⟩).symm
  · rw [decide_eq_false (by omega), eq_comm, List.any_eq_false]
    intro q hq; rw [h1 q hq]; decide
set_option maxHeartbeats 4000000 in
set_option maxRecDepth 100000 in
theorem c_IndexFuncP (vs : List (Int × Int)) (p : Int × Int → Bool) (a : Option Addr) (n c : Nat) (fv : Value) (w : World) (hn : vs.length = n) (hl : RdP w a vs) (hll : n ≤ 140737488355328) (hw : WantP w fv p) :
    Calls Try.prog 35 #[.slice a n c, fv] w fun e w' => ∃ r : Int, e = .returned (.int .i64 r) ∧ Hid (FirstP vs p r) ∧ Below w.heap.size w w' := by
  obtain ⟨g, cb, rfl, eg, hcall⟩ := hw
  unfold Enters at eg
  have HC := Lib.hid hcall
  have HN := Lib.hid hn
  have HL := Lib.hid hl
  clear hcall hn hl
  go_enter Try.func35, Try.ntmps35
  go_wp2_with fail
  go_loopw [8] (fun i wr => ∃ k : Nat, k ≤ n ∧ i = .int .i64 k ∧ Hid (∀ j, j < k → ∀ v, vs[j]? = some v → p v = false) ∧ Below w.heap.size w wr) (fun i _ => n - (intOf i).toNat)
  case atStart => exact ⟨0, Nat.zero_le _, rfl, Lib.hid (fun j h => absurd h (Nat.not_lt_zero _)), Below.refl _ _⟩
  case round =>
    obtain ⟨k, hk, rfl, hall, hB⟩ := hrel
    by_cases hlt : k < n
    · obtain ⟨b1, off1, v, rfl, h1, c1, c2⟩ := (HL.out.below hB).atp (i := k) (by rw [HN.out]; exact hlt)
      have H1 := Lib.hid h1
      clear h1
      cases hp : p v with
      | true =>
        have HP := Lib.hid hp
        clear hp
        go_wp2_with fail
        refine (HC.out _ v hB).mono ?_
        rintro e w1 ⟨rfl, hb1⟩
        rw [HP.out]
        go_wp2
        go_ret
        exact ⟨_, rfl, Lib.hid (.inl ⟨k, v, rfl, H1.out, HP.out, hall.out⟩), bthen hB hb1⟩
      | false =>
        have HP := Lib.hid hp
        clear hp
        go_wp2_with fail
        refine (HC.out _ v hB).mono ?_
        rintro e w1 ⟨rfl, hb1⟩
        rw [HP.out]
        go_wp2
        go_roundw
        case rel =>
          refine ⟨k + 1, by omega, by go_num, Lib.hid (fun j hj u hu => ?_), bthen hB hb1⟩
          by_cases e : j = k
          · subst e; rw [H1.out] at hu; cases hu; exact HP.out
          · exact hall.out j (by omega) u hu
        case measure => simp [intOf]; omega
    · obtain rfl : k = n := by omega
      go_wp2
      go_ret
      refine ⟨_, rfl, Lib.hid (.inr ⟨rfl, fun q hq => ?_⟩), hB⟩
      obtain ⟨i, hi, e⟩ := List.mem_iff_getElem.1 hq
      exact hall.out i (by rw [← HN.out]; exact hi) q (by rw [List.getElem?_eq_getElem hi, e])
set_option maxHeartbeats 4000000 in
set_option maxRecDepth 100000 in
theorem c_ContainsFuncP (vs : List (Int × Int)) (p : Int × Int → Bool) (a : Option Addr) (n c : Nat) (r : Bool) (fv : Value) (w : World) (hn : vs.length = n) (hr : vs.any p = r) (hl : RdP w a vs) (hll : n ≤ 140737488355328) (hw : WantP w fv p) :
    Calls Try.prog 45 #[.slice a n c, fv] w fun e w' => e = .returned (.bool r) ∧ Below w.heap.size w w' := by
  have HR := Lib.hid hr
  clear hr
  go_enter Try.func45, Try.ntmps45
  go_wp2_with fail
  refine (c_IndexFuncP vs p a n c fv _ hn hl hll hw).mono ?_
  rintro e w1 ⟨r1, rfl, hr1, hb1⟩
  go_wp2
  go_ret
  exact ⟨ret_bool (by rw [hr1.out.any, HR.out]), hb1⟩
set_option maxHeartbeats 4000000 in
set_option maxRecDepth 100000 in
theorem c_IndexP (l : List (Int × Int)) (x : Int × Int) (a : Option Addr) (n c : Nat) (w : World) (hn : l.length = n) (hl : RdP w a l) (hll : n ≤ 140737488355328) :
    Calls Try.prog 91 #[.slice a n c, .agg #[.int .i64 x.1, .int .i64 x.2]] w fun e w' => ∃ r : Int, e = .returned (.int .i64 r) ∧ Hid (decide (0 ≤ r) = decide (x ∈ l)) ∧ Below w.heap.size w w' := by
  have HN := Lib.hid hn
  have HL := Lib.hid hl
  clear hn hl
  go_enter Try.func91, Try.ntmps91
  go_wp2_with fail
  have hb0 : Below w.heap.size w (w.alloc (.cells #[.int .i64 x.1, .int .i64 x.2] 54)) := bal (Below.refl _ _) _
  obtain ⟨w0, hw0⟩ : ∃ w0, w0 = w.alloc (.cells #[.int .i64 x.1, .int .i64 x.2] 54) := ⟨_, rfl⟩
  have X0 := Lib.hid (show w0.cell? ⟨w.heap.size, 0, none⟩ = some (.int .i64 x.1) from by rw [hw0]; simp)
  have X1 := Lib.hid (show w0.cell? ⟨w.heap.size, 1, none⟩ = some (.int .i64 x.2) from by rw [hw0]; simp)
  rw [← hw0] at hb0 ⊢
  have HB0 := Lib.hid hb0
  clear hw0 hb0
  go_loopw [8] (fun i wr => ∃ k : Nat, k ≤ n ∧ i = .int .i64 k ∧ Hid (∀ j, j < k → l[j]? ≠ some x) ∧ Below w0.heap.size w0 wr) (fun i _ => n - (intOf i).toNat)
  case atStart => exact ⟨0, Nat.zero_le _, rfl, Lib.hid (fun j h => absurd h (Nat.not_lt_zero _)), Below.refl _ _⟩
  case round =>
    obtain ⟨k, hk, rfl, hall, hB⟩ := hrel
    have hBw := Lib.hid (bthen HB0.out hB)
    have x0 := below_cell hB X0.out
    have x1 := below_cell hB X1.out
    by_cases hlt : k < n
    · obtain ⟨b1, off1, v, rfl, h1, c1, c2⟩ := (HL.out.below hBw.out).atp (i := k) (by rw [HN.out]; exact hlt)
      have H1 := Lib.hid h1
      have HB := Lib.hid hB
      clear h1 hB
      by_cases hp : x = v
      · subst hp
        have heq : ∀ w, Sem.run Try.prog (Op.equalIn 10000 54 (.agg #[.int .i64 x.1, .int .i64 x.2]) (.agg #[.int .i64 x.1, .int .i64 x.2])) w = .ok true w := fun w => by rw [eqP]; simp
        go_wp2
        go_quiet (fail)
        go_wp2
        go_ret
        exact ⟨_, rfl, Lib.hid (by have hx := List.mem_of_getElem? H1.out; simp [hx]), bdrN hBw.out _⟩
      · have heq : ∀ w, Sem.run Try.prog (Op.equalIn 10000 54 (.agg #[.int .i64 x.1, .int .i64 x.2]) (.agg #[.int .i64 v.1, .int .i64 v.2])) w = .ok false w := fun w => by
          rw [eqP]
          congr 1
          cases e1 : (x.1 == v.1 && x.2 == v.2) with
          | false => rfl
          | true =>
            simp only [Bool.and_eq_true, beq_iff_eq] at e1
            exact absurd (Prod.ext e1.1 e1.2) hp
        have HP := Lib.hid hp
        clear hp
        go_wp2
        go_quiet (fail)
        go_wp2
        go_roundw
        case rel =>
          refine ⟨k + 1, by omega, by go_num, Lib.hid (fun j hj hu => ?_), bdrN HB.out _⟩
          by_cases e : j = k
          · subst e; rw [H1.out] at hu; cases hu; exact HP.out rfl
          · exact hall.out j (by omega) hu
        case measure => simp [intOf]; omega
    · obtain rfl : k = n := by omega
      go_wp2
      go_ret
      have hno : ¬ x ∈ l := fun h => by
        obtain ⟨i, hi, e⟩ := List.mem_iff_getElem.1 h
        exact hall.out i (by rw [← HN.out]; exact hi) (by rw [List.getElem?_eq_getElem hi, e])
      refine ⟨_, rfl, Lib.hid ?_, hBw.out⟩
      simp [hno]
set_option maxHeartbeats 4000000 in
set_option maxRecDepth 100000 in
theorem c_ContainsP (l : List (Int × Int)) (x : Int × Int) (a : Option Addr) (n c : Nat) (r : Bool) (w : World) (hn : l.length = n) (hr : decide (x ∈ l) = r) (hl : RdP w a l) (hll : n ≤ 140737488355328) :
    Calls Try.prog 44 #[.slice a n c, .agg #[.int .i64 x.1, .int .i64 x.2]] w fun e w' => e = .returned (.bool r) ∧ Below w.heap.size w w' := by
  have HR := Lib.hid hr
  clear hr
  have hb0 := Lib.hid (bal (Below.refl w.heap.size w) (.cells #[.int .i64 x.1, .int .i64 x.2] 54))
  go_enter Try.func44, Try.ntmps44
  go_wp2_with fail
  refine (c_IndexP l x a n c _ hn (by exact hl.below hb0.out) hll).mono ?_
  rintro e w1 ⟨r1, rfl, hr1, hb1⟩
  have hBz := bthen hb0.out hb1
  clear hb1
  go_wp2
  go_ret
  exact ⟨ret_bool (by rw [hr1.out, HR.out]), hBz⟩
set_option maxHeartbeats 4000000 in
set_option maxRecDepth 100000 in
theorem c_IndexFuncLL (vs : List Value) (p : Value → Bool) (a : Option Addr) (n c : Nat) (fv : Value) (w : World) (hn : vs.length = n) (hl : RdV w a vs) (hll : n ≤ 140737488355328) (hw : WantV w fv p vs) :
    Calls Try.prog 89 #[.slice a n c, fv] w fun e w' => ∃ r : Int, e = .returned (.int .i64 r) ∧ Hid (decide (0 ≤ r) = vs.any p) ∧ Below w.heap.size w w' := by
  obtain ⟨g, cb, rfl, eg, hcall⟩ := hw
  unfold Enters at eg
  have HC := Lib.hid hcall
  have HN := Lib.hid hn
  have HL := Lib.hid hl
  clear hcall hn hl
  go_enter Try.func89, Try.ntmps89
  go_wp2_with fail
  go_loopw [8] (fun i wr => ∃ k : Nat, k ≤ n ∧ i = .int .i64 k ∧ Hid (∀ j, j < k → ∀ v, vs[j]? = some v → p v = false) ∧ Below w.heap.size w wr) (fun i _ => n - (intOf i).toNat)
  case atStart => exact ⟨0, Nat.zero_le _, rfl, Lib.hid (fun j h => absurd h (Nat.not_lt_zero _)), Below.refl _ _⟩
  case round =>
    obtain ⟨k, hk, rfl, hall, hB⟩ := hrel
    by_cases hlt : k < n
    · obtain ⟨b1, off1, v, rfl, h1, c1⟩ := (HL.out.below hB).ati (i := k) (by rw [HN.out]; exact hlt)
      have H1 := Lib.hid h1
      clear h1
      cases hp : p v with
      | true =>
        have HP := Lib.hid hp
        clear hp
        go_wp2_with fail
        refine (HC.out _ v hB (List.mem_of_getElem? H1.out)).mono ?_
        rintro e w1 ⟨rfl, hb1⟩
        rw [HP.out]
        go_wp2
        go_ret
        exact ⟨_, rfl, Lib.hid (by rw [any_yes H1.out HP.out]; exact decide_eq_true (by omega)), bthen hB hb1⟩
      | false =>
        have HP := Lib.hid hp
        clear hp
        go_wp2_with fail
        refine (HC.out _ v hB (List.mem_of_getElem? H1.out)).mono ?_
        rintro e w1 ⟨rfl, hb1⟩
        rw [HP.out]
        go_wp2
        go_roundw
        case rel =>
          refine ⟨k + 1, by omega, by go_num, Lib.hid (fun j hj u hu => ?_), bthen hB hb1⟩
          by_cases e : j = k
          · subst e; rw [H1.out] at hu; cases hu; exact HP.out
          · exact hall.out j (by omega) u hu
        case measure => simp [intOf]; omega
    · obtain rfl : k = n := by omega
      go_wp2
      go_ret
      exact ⟨_, rfl, Lib.hid (by rw [any_no (fun j hj => hall.out j (by rw [← HN.out]; exact hj))]; decide), hB⟩
set_option maxHeartbeats 4000000 in
set_option maxRecDepth 100000 in
theorem c_ContainsFuncLL (vs : List Value) (p : Value → Bool) (a : Option Addr) (n c : Nat) (fv : Value) (w : World) (hn : vs.length = n) (hl : RdV w a vs) (hll : n ≤ 140737488355328) (hw : WantV w fv p vs) :
    Calls Try.prog 40 #[.slice a n c, fv] w fun e w' => e = .returned (.bool (vs.any p)) ∧ Below w.heap.size w w' := by
  go_enter Try.func40, Try.ntmps40
  go_wp2_with fail
  refine (c_IndexFuncLL vs p a n c fv _ hn hl hll hw).mono ?_
  rintro e w1 ⟨r, rfl, hr, hb1⟩
  go_wp2
  go_ret
  exact ⟨ret_bool (by rw [← hr.out]), hb1⟩

/-- The length of a slice is more than k. -/
def longN (k : Nat) : Value → Bool
  | .slice _ n _ => decide (k < n)
  | _ => false
theorem RdLL.vals {w : World} {a : Option Addr} {ll : List (List (Int × Int))} (h : RdLL w a ll) : ∃ vs : List Value, vs.length = ll.length ∧ RdV w a vs ∧ ∀ (i : Nat) (l : List (Int × Int)), ll[i]? = some l → ∃ (ra : Option Addr) (rc : Nat), vs[i]? = some (Value.slice ra l.length rc) := by
  by_cases he : ll = []
  · subst he
    exact ⟨[], rfl, fun h => absurd rfl h, fun i l hl => by simp at hl⟩
  · obtain ⟨b, off, e, hc⟩ := h he
    have hx : ∀ i, i < ll.length → ∃ ra rc, w.cell? ⟨b, off + i, none⟩ = some (.slice ra (ll.getD i []).length rc) := fun i hi => by
      obtain ⟨ra, rc, h1, _⟩ := hc i ll[i] (by simp [hi])
      exact ⟨ra, rc, by rw [h1, List.getD_eq_getElem?_getD, List.getElem?_eq_getElem hi]; rfl⟩
    refine ⟨(List.range ll.length).map fun i => (w.cell? ⟨b, off + i, none⟩).getD (.bool false), by simp, fun _ => ⟨b, off, e, fun i v hv => ?_⟩, fun i l hl => ?_⟩
    · have hi : i < ll.length := by
        rcases Nat.lt_or_ge i ll.length with h' | h'
        · exact h'
        · rw [List.getElem?_eq_none (by simpa using h')] at hv; cases hv
      obtain ⟨ra, rc, h1⟩ := hx i hi
      rw [List.getElem?_map, List.getElem?_range hi] at hv
      simp only [Option.map_some, Option.some.injEq] at hv
      rw [h1] at hv ⊢
      rw [← hv]; rfl
    · have hi : i < ll.length := by
        rcases Nat.lt_or_ge i ll.length with h' | h'
        · exact h'
        · rw [List.getElem?_eq_none h'] at hl; cases hl
      obtain ⟨ra, rc, h1, _⟩ := hc i l hl
      exact ⟨ra, rc, by rw [List.getElem?_map, List.getElem?_range hi]; simp [h1]⟩
theorem any_long {ll : List (List (Int × Int))} {vs : List Value} {k : Nat} (hlen : vs.length = ll.length) (h : ∀ (i : Nat) (l : List (Int × Int)), ll[i]? = some l → ∃ (ra : Option Addr) (rc : Nat), vs[i]? = some (Value.slice ra l.length rc)) : vs.any (longN k) = ll.any fun l => decide (k < l.length) := by
  rw [Bool.eq_iff_iff, List.any_eq_true, List.any_eq_true]
  constructor
  · rintro ⟨v, hv, hl⟩
    obtain ⟨i, hi, rfl⟩ := List.mem_iff_getElem.1 hv
    obtain ⟨ra, rc, e⟩ := h i ll[i] (by simp)
    rw [List.getElem?_eq_getElem hi] at e
    refine ⟨ll[i], List.getElem_mem _, ?_⟩
    rw [Option.some.inj e] at hl
    exact hl
  · rintro ⟨l, hl, hk⟩
    obtain ⟨i, hi, rfl⟩ := List.mem_iff_getElem.1 hl
    obtain ⟨ra, rc, e⟩ := h i ll[i] (by simp)
    exact ⟨_, List.mem_of_getElem? e, hk⟩
set_option maxHeartbeats 400000 in
theorem l_long64 (a : Option Addr) (n c : Nat) (w : World) (hn : n ≤ 9223372036854775807) : Calls Try.prog 41 #[.slice a n c] w fun e w' => e = .returned (.bool (longN 64 (.slice a n c))) ∧ Below w.heap.size w w' := by
  by_cases h : 64 < n
  all_goals
    go_enter Try.func41, Try.ntmps41
    go_wp2
    go_ret
    exact ⟨ret_bool (by simp [longN]; omega), Below.refl _ _⟩
/-- Whether one of the lists is longer than 64. -/
theorem c_Long64 (ll : List (List (Int × Int))) (a : Option Addr) (n c : Nat) (r : Bool) (w : World) (hn : ll.length = n) (hr : (ll.any fun l => decide (64 < l.length)) = r) (hl : RdLL w a ll) (hll : n ≤ 140737488355328) (hlen : ∀ l ∈ ll, l.length ≤ 9223372036854775807) :
    Calls Try.prog 40 #[.slice a n c, .func (.func 41) #[] #[]] w fun e w' => e = .returned (.bool r) ∧ Below w.heap.size w w' := by
  obtain ⟨vs, h1, h2, h3⟩ := hl.vals
  refine (c_ContainsFuncLL vs (longN 64) a n c _ w (by omega) h2 hll ⟨41, #[], rfl, enters_of Try.func41 (by kernel_rfl) rfl, fun W v hW hv => ?_⟩).mono ?_
  · obtain ⟨i, hi, rfl⟩ := List.mem_iff_getElem.1 hv
    obtain ⟨ra, rc, e⟩ := h3 i (ll[i]'(by omega)) (by rw [List.getElem?_eq_getElem (by omega)])
    rw [List.getElem?_eq_getElem hi] at e
    rw [Option.some.inj e]
    exact l_long64 ra _ rc W (hlen _ (List.getElem_mem _))
  · rintro e w1 ⟨rfl, hb⟩
    exact ⟨ret_bool (by rw [any_long h1 h3, hr]), hb⟩
set_option maxHeartbeats 400000 in
theorem l_long100 (a : Option Addr) (n c : Nat) (w : World) (hn : n ≤ 9223372036854775807) : Calls Try.prog 48 #[.slice a n c] w fun e w' => e = .returned (.bool (longN 100 (.slice a n c))) ∧ Below w.heap.size w w' := by
  by_cases h : 100 < n
  all_goals
    go_enter Try.func48, Try.ntmps48
    go_wp2
    go_ret
    exact ⟨ret_bool (by simp [longN]; omega), Below.refl _ _⟩
/-- Whether one of the lists is longer than 100. -/
theorem c_Long100 (ll : List (List (Int × Int))) (a : Option Addr) (n c : Nat) (r : Bool) (w : World) (hn : ll.length = n) (hr : (ll.any fun l => decide (100 < l.length)) = r) (hl : RdLL w a ll) (hll : n ≤ 140737488355328) (hlen : ∀ l ∈ ll, l.length ≤ 9223372036854775807) :
    Calls Try.prog 40 #[.slice a n c, .func (.func 48) #[] #[]] w fun e w' => e = .returned (.bool r) ∧ Below w.heap.size w w' := by
  obtain ⟨vs, h1, h2, h3⟩ := hl.vals
  refine (c_ContainsFuncLL vs (longN 100) a n c _ w (by omega) h2 hll ⟨48, #[], rfl, enters_of Try.func48 (by kernel_rfl) rfl, fun W v hW hv => ?_⟩).mono ?_
  · obtain ⟨i, hi, rfl⟩ := List.mem_iff_getElem.1 hv
    obtain ⟨ra, rc, e⟩ := h3 i (ll[i]'(by omega)) (by rw [List.getElem?_eq_getElem (by omega)])
    rw [List.getElem?_eq_getElem hi] at e
    rw [Option.some.inj e]
    exact l_long100 ra _ rc W (hlen _ (List.getElem_mem _))
  · rintro e w1 ⟨rfl, hb⟩
    exact ⟨ret_bool (by rw [any_long h1 h3, hr]), hb⟩
set_option maxHeartbeats 1000000 in
theorem l_cheap1 (width : Int) (q : Int × Int) (b : Nat) (w : World) (hm : w.cell? ⟨b, 0, none⟩ = some (.int .i64 width)) :
    Calls Try.prog 36 #[.agg #[.int .i64 q.1, .int .i64 q.2], .pointer (some ⟨b, 0, none⟩)] w fun e w' => e = .returned (.bool (decide (q.2 ≤ width))) ∧ Below w.heap.size w w' := by
  have hc := cal hm (.cells #[.int .i64 q.1, .int .i64 q.2] 54)
  by_cases h : q.2 ≤ width
  all_goals
    go_enter Try.func36, Try.ntmps36
    go_wp2
    go_ret
    exact ⟨ret_bool (by simp; omega), bal (Below.refl _ _) _⟩
set_option maxHeartbeats 1000000 in
theorem l_follows2 (p q : Int × Int) (b : Nat) (w : World) (h0 : w.cell? ⟨b, 0, none⟩ = some (.int .i64 p.1)) (h1 : w.cell? ⟨b, 1, none⟩ = some (.int .i64 p.2)) :
    Calls Try.prog 46 #[.agg #[.int .i64 q.1, .int .i64 q.2], .pointer (some ⟨b, 0, none⟩)] w fun e w' => e = .returned (.bool (decide (q.1 ≤ p.1) && decide (q.2 ≤ p.2))) ∧ Below w.heap.size w w' := by
  have hc0 := cal h0 (.cells #[.int .i64 q.1, .int .i64 q.2] 54)
  have hc1 := cal h1 (.cells #[.int .i64 q.1, .int .i64 q.2] 54)
  by_cases g1 : q.1 ≤ p.1 <;> by_cases g2 : q.2 ≤ p.2
  all_goals
    go_enter Try.func46, Try.ntmps46
    go_wp2
    go_ret
    exact ⟨ret_bool (by simp [g1, g2] <;> omega), bal (Below.refl _ _) _⟩
set_option maxHeartbeats 2000000 in
theorem l_before (xs ys : List Int) (x y : Int) (a b : Option Addr) (xn yn ca cb : Nat) (r : Bool) (w : World) (hxn : xs.length = xn) (hyn : ys.length = yn) (hr : befL x xs y ys = r) (hx : RdI w a xs) (hy : RdI w b ys) (lx : xn ≤ 140737488355328) (ly : yn ≤ 140737488355328) :
    Calls Try.prog 37 #[.slice a xn ca, .int .i64 x, .slice b yn cb, .int .i64 y] w fun e w' => e = .returned (.bool r) ∧ Below w.heap.size w w' := by
  have HR := Lib.hid hr
  have HXN := Lib.hid hxn
  have HYN := Lib.hid hyn
  clear hr
  by_cases h : x = y
  · subst h
    by_cases h2 : xn = yn
    · subst h2
      have hc := Lib.hid (c_SCompare xs ys a b ca cb w hx hy (by omega) (by omega))
      have HE := Lib.hid (befL_list (c := x) (show xs.length = ys.length by omega))
      have t0 : (x != x) = false := by simp
      have t1 : ((xn : Int) != (xn : Int)) = false := by simp
      rw [hxn, hyn] at hc
      clear hxn hyn
      go_enter Try.func37, Try.ntmps37
      go_wp2_with fail
      refine hc.out.mono ?_
      rintro e w1 ⟨rfl, rfl⟩
      go_wp2
      go_ret
      exact ⟨ret_bool (by rw [← HR.out, HE.out]), Below.refl _ _⟩
    · have HE := Lib.hid (befL_len (c := x) (show xs.length ≠ ys.length by omega))
      have t0 : (x != x) = false := by simp
      have t1 : ((xn : Int) != (yn : Int)) = true := by simp; omega
      clear hxn hyn
      go_enter Try.func37, Try.ntmps37
      go_wp2
      go_ret
      exact ⟨ret_bool (by rw [← HR.out, HE.out, HXN.out, HYN.out]; simp), Below.refl _ _⟩
  · have HE := Lib.hid (befL_cost (xs := xs) (ys := ys) h)
    have t0 : (x != y) = true := by simp [h]
    clear hxn hyn h
    go_enter Try.func37, Try.ntmps37
    go_wp2
    go_ret
    exact ⟨ret_bool (by rw [← HR.out, HE.out]), Below.refl _ _⟩
end Go.Proofs.Ytjdldmecjhddnaa
