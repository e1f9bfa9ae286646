/- The contracts of slices.IndexFunc and ContainsFunc at ints and at slices, of the laws' short and asked. -/
import Derived.Test.YtjdldmecjhddnaaK18
import Derived.Test.YtjdldmecjhddnaaKR1
namespace Go.Proofs.Ytjdldmecjhddnaa
open Go.RowKit
set_option linter.unusedVariables false
set_option linter.unusedSimpArgs false

/-- The slice at a holds the values vs, one to a cell. -/
def RdV (w : World) (a : Option Addr) (vs : List Value) : Prop :=
  vs ≠ [] → ∃ b off, a = some ⟨b, off, none⟩ ∧ ∀ i v, vs[i]? = some v → w.cell? ⟨b, off + i, none⟩ = some v
theorem RdV.below {w w' : World} {a : Option Addr} {vs : List Value} (h : RdV w a vs) (hb : Below w.heap.size w w') : RdV w' a vs := by
  intro hne
  obtain ⟨b, off, e, hc⟩ := h hne
  exact ⟨b, off, e, fun i v hv => below_cell hb (hc i v hv)⟩
theorem RdV.ati {w : World} {a : Option Addr} {vs : List Value} (h : RdV w a vs) {i : Nat} (hi : i < vs.length) : ∃ b off v, a = some ⟨b, off, none⟩ ∧ vs[i]? = some v ∧ w.cell? ⟨b, off + i, none⟩ = some v := by
  obtain ⟨b, off, e, hc⟩ := h (by intro e; rw [e] at hi; simp at hi)
  exact ⟨b, off, vs[i], e, by simp [hi], hc i _ (by simp [hi])⟩
theorem RdV.ints {w : World} {a : Option Addr} {l : List Int} (h : RdI w a l) : RdV w a (l.map (Value.int .i64)) := by
  intro hne
  have hl : 0 < l.length := by
    rcases Nat.eq_zero_or_pos l.length with e | e
    · rw [List.length_eq_zero_iff] at e; subst e; exact absurd rfl hne
    · exact e
  obtain ⟨b, off, x, e, _, _⟩ := h.ati hl
  refine ⟨b, off, e, fun i v hv => ?_⟩
  rw [List.getElem?_map] at hv
  cases hx : l[i]? with
  | none => rw [hx] at hv; cases hv
  | some y =>
    rw [hx] at hv
    have hi : i < l.length := by
      rcases Nat.lt_or_ge i l.length with h' | h'
      · exact h'
      · rw [List.getElem?_eq_none h'] at hx; cases hx
    obtain ⟨b2, off2, z, e2, hz, hc⟩ := h.ati hi
    rw [e] at e2
    injection e2 with e2
    injection e2 with e2 e3
    subst e2 e3
    rw [hz] at hx
    cases hx
    cases hv
    exact hc
/-- A function of one value that says p of each of vs; it lays blocks of its own alone. -/
def WantV (w : World) (fv : Value) (p : Value → Bool) (vs : List Value) : Prop :=
  ∃ g cb, fv = .func (.func g) #[] cb ∧ Enters Try.prog g ∧
    ∀ (W : World) (v : Value), Below w.heap.size w W → v ∈ vs → Calls Try.prog g (#[v] ++ cb) W fun e W' => e = .returned (.bool (p v)) ∧ Below W.heap.size W W'
theorem any_no {vs : List Value} {p : Value → Bool} (h : ∀ j, j < vs.length → ∀ v, vs[j]? = some v → p v = false) : vs.any p = false := by
  rw [List.any_eq_false]
  intro x hx
  obtain ⟨i, hi, rfl⟩ := List.mem_iff_getElem.1 hx
  rw [h i hi _ (by simp [hi])]; decide
theorem any_yes {vs : List Value} {p : Value → Bool} {j : Nat} {v : Value} (h : vs[j]? = some v) (hp : p v = true) : vs.any p = true :=
  List.any_eq_true.2 ⟨v, List.mem_of_getElem? h, hp⟩
set_option maxHeartbeats 4000000 in
set_option maxRecDepth 100000 in
theorem c_IndexFuncI (vs : List Value) (p : Value → Bool) (a : Option Addr) (n c : Nat) (fv : Value) (w : World) (hn : vs.length = n) (hl : RdV w a vs) (hll : n ≤ 140737488355328) (hw : WantV w fv p vs) :
    Calls Try.prog 109 #[.slice a n c, fv] w fun e w' => ∃ r : Int, e = .returned (.int .i64 r) ∧ Hid (decide (0 ≤ r) = vs.any p) ∧ Below w.heap.size w w' := by
  obtain ⟨g, cb, rfl, eg, hcall⟩ := hw
  unfold Enters at eg
  have HC := Lib.hid hcall
  have HN := Lib.hid hn
  have HL := Lib.hid hl
  clear hcall hn hl
  go_enter Try.func109, Try.ntmps109
  go_wp2_with fail
  go_loopw [8] (fun i wr => ∃ k : Nat, k ≤ n ∧ i = .int .i64 k ∧ Hid (∀ j, j < k → ∀ v, vs[j]? = some v → p v = false) ∧ Below w.heap.size w wr) (fun i _ => n - (intOf i).toNat)
  case atStart => exact ⟨0, Nat.zero_le _, rfl, Lib.hid (fun j h => absurd h (Nat.not_lt_zero _)), Below.refl _ _⟩
  case round =>
    obtain ⟨k, hk, rfl, hall, hB⟩ := hrel
    by_cases hlt : k < n
    · obtain ⟨b1, off1, v, rfl, h1, c1⟩ := (HL.out.below hB).ati (i := k) (by rw [HN.out]; exact hlt)
      have H1 := Lib.hid h1
      clear h1
      cases hp : p v with
      | true =>
        have HP := Lib.hid hp
        clear hp
        go_wp2_with fail
        refine (HC.out _ v hB (List.mem_of_getElem? H1.out)).mono ?_
        rintro e w1 ⟨rfl, hb1⟩
        rw [HP.out]
        go_wp2
        go_ret
        exact ⟨_, rfl, Lib.hid (by rw [any_yes H1.out HP.out]; exact decide_eq_true (by omega)), bthen hB hb1⟩
      | false =>
        have HP := Lib.hid hp
        clear hp
        go_wp2_with fail
        refine (HC.out _ v hB (List.mem_of_getElem? H1.out)).mono ?_
        rintro e w1 ⟨rfl, hb1⟩
        rw [HP.out]
        go_wp2
        go_roundw
        case rel =>
          refine ⟨k + 1, by omega, by go_num, Lib.hid (fun j hj u hu => ?_), bthen hB hb1⟩
          by_cases e : j = k
          · subst e; rw [H1.out] at hu; cases hu; exact HP.out
          · exact hall.out j (by omega) u hu
        case measure => simp [intOf]; omega
    · obtain rfl : k = n := by omega
      go_wp2
      go_ret
      exact ⟨_, rfl, Lib.hid (by rw [any_no (fun j hj => hall.out j (by rw [← HN.out]; exact hj))]; decide), hB⟩
set_option maxHeartbeats 4000000 in
set_option maxRecDepth 100000 in
theorem c_ContainsFuncI (vs : List Value) (p : Value → Bool) (a : Option Addr) (n c : Nat) (fv : Value) (w : World) (hn : vs.length = n) (hl : RdV w a vs) (hll : n ≤ 140737488355328) (hw : WantV w fv p vs) :
    Calls Try.prog 81 #[.slice a n c, fv] w fun e w' => e = .returned (.bool (vs.any p)) ∧ Below w.heap.size w w' := by
  go_enter Try.func81, Try.ntmps81
  go_wp2_with fail
  refine (c_IndexFuncI vs p a n c fv _ hn hl hll hw).mono ?_
  rintro e w1 ⟨r, rfl, hr, hb1⟩
  go_wp2
  go_ret
  exact ⟨ret_bool (by rw [← hr.out]), hb1⟩
set_option maxHeartbeats 4000000 in
set_option maxRecDepth 100000 in
theorem c_IndexFuncL (vs : List Value) (p : Value → Bool) (a : Option Addr) (n c : Nat) (fv : Value) (w : World) (hn : vs.length = n) (hl : RdV w a vs) (hll : n ≤ 140737488355328) (hw : WantV w fv p vs) :
    Calls Try.prog 114 #[.slice a n c, fv] w fun e w' => ∃ r : Int, e = .returned (.int .i64 r) ∧ Hid (decide (0 ≤ r) = vs.any p) ∧ Below w.heap.size w w' := by
  obtain ⟨g, cb, rfl, eg, hcall⟩ := hw
  unfold Enters at eg
  have HC := Lib.hid hcall
  have HN := Lib.hid hn
  have HL := Lib.hid hl
  clear hcall hn hl
  go_enter Try.func114, Try.ntmps114
  go_wp2_with fail
  go_loopw [8] (fun i wr => ∃ k : Nat, k ≤ n ∧ i = .int .i64 k ∧ Hid (∀ j, j < k → ∀ v, vs[j]? = some v → p v = false) ∧ Below w.heap.size w wr) (fun i _ => n - (intOf i).toNat)
  case atStart => exact ⟨0, Nat.zero_le _, rfl, Lib.hid (fun j h => absurd h (Nat.not_lt_zero _)), Below.refl _ _⟩
  case round =>
    obtain ⟨k, hk, rfl, hall, hB⟩ := hrel
    by_cases hlt : k < n
    · obtain ⟨b1, off1, v, rfl, h1, c1⟩ := (HL.out.below hB).ati (i := k) (by rw [HN.out]; exact hlt)
      have H1 := Lib.hid h1
      clear h1
      cases hp : p v with
      | true =>
        have HP := Lib.hid hp
        clear hp
        go_wp2_with fail
        refine (HC.out _ v hB (List.mem_of_getElem? H1.out)).mono ?_
        rintro e w1 ⟨rfl, hb1⟩
        rw [HP.out]
        go_wp2
        go_ret
        exact ⟨_, rfl, Lib.hid (by rw [any_yes H1.out HP.out]; exact decide_eq_true (by omega)), bthen hB hb1⟩
      | false =>
        have HP := Lib.hid hp
        clear hp
        go_wp2_with fail
        refine (HC.out _ v hB (List.mem_of_getElem? H1.out)).mono ?_
        rintro e w1 ⟨rfl, hb1⟩
        rw [HP.out]
        go_wp2
        go_roundw
        case rel =>
          refine ⟨k + 1, by omega, by go_num, Lib.hid (fun j hj u hu => ?_), bthen hB hb1⟩
          by_cases e : j = k
          · subst e; rw [H1.out] at hu; cases hu; exact HP.out
          · exact hall.out j (by omega) u hu
        case measure => simp [intOf]; omega
    · obtain rfl : k = n := by omega
      go_wp2
      go_ret
      exact ⟨_, rfl, Lib.hid (by rw [any_no (fun j hj => hall.out j (by rw [← HN.out]; exact hj))]; decide), hB⟩
set_option maxHeartbeats 4000000 in
set_option maxRecDepth 100000 in
theorem c_ContainsFuncL (vs : List Value) (p : Value → Bool) (a : Option Addr) (n c : Nat) (fv : Value) (w : World) (hn : vs.length = n) (hl : RdV w a vs) (hll : n ≤ 140737488355328) (hw : WantV w fv p vs) :
    Calls Try.prog 98 #[.slice a n c, fv] w fun e w' => e = .returned (.bool (vs.any p)) ∧ Below w.heap.size w w' := by
  go_enter Try.func98, Try.ntmps98
  go_wp2_with fail
  refine (c_IndexFuncL vs p a n c fv _ hn hl hll hw).mono ?_
  rintro e w1 ⟨r, rfl, hr, hb1⟩
  go_wp2
  go_ret
  exact ⟨ret_bool (by rw [← hr.out]), hb1⟩
/-- The length of a slice is more than a hundred. -/
def longV : Value → Bool
  | .slice _ n _ => decide (100 < n)
  | _ => false
set_option maxHeartbeats 400000 in
theorem l_short1 (a : Option Addr) (n c : Nat) (w : World) (hn : n ≤ 140737488355328) : Calls Try.prog 99 #[.slice a n c] w fun e w' => e = .returned (.bool (longV (.slice a n c))) ∧ Below w.heap.size w w' := by
  by_cases h : 100 < n
  all_goals
    go_enter Try.func99, Try.ntmps99
    go_wp2
    go_ret
    exact ⟨ret_bool (by simp [longV]; omega), Below.refl _ _⟩
set_option maxHeartbeats 4000000 in
set_option maxRecDepth 100000 in
theorem l_short (a : Option Addr) (n c : Nat) (s : Option Addr) (sc : Nat) (w : World) (hn : n ≤ 140737488355328) (hs : RdV w s [.slice a n c]) :
    Calls Try.prog 52 #[.slice s 1 sc] w fun e w' => e = .returned (.bool (decide (n ≤ 100))) ∧ Below w.heap.size w w' := by
  have HE : Hid (decide (n ≤ 100) = !(longV (Value.slice a n c))) := Lib.hid (by by_cases h : n ≤ 100 <;> simp [longV, h] <;> omega)
  go_enter Try.func52, Try.ntmps52
  go_wp2_with fail
  refine (c_ContainsFuncL [.slice a n c] longV s 1 sc _ _ rfl hs (by decide) ⟨99, #[], rfl, enters_of Try.func99 (by kernel_rfl) rfl, fun W v hW hv => ?_⟩).mono ?_
  · obtain rfl : v = .slice a n c := by simpa using hv
    exact l_short1 a n c W hn
  rintro e w1 ⟨rfl, hb1⟩
  simp only [List.any_cons, List.any_nil, Bool.or_false]
  go_wp2
  go_ret
  exact ⟨ret_bool HE.out.symm, hb1⟩
/-- A number that is no clock of the market. -/
def noClock (n : Int) : Value → Bool
  | .int _ x => decide (x < 0) || decide (n ≤ x)
  | _ => false
set_option maxHeartbeats 4000000 in
set_option maxRecDepth 100000 in
theorem l_asked1 (n x : Int) (b : Nat) (w : World) (hm : w.cell? ⟨b, 0, none⟩ = some (.int .i64 n)) :
    Calls Try.prog 82 #[.int .i64 x, .pointer (some ⟨b, 0, none⟩)] w fun e w' => e = .returned (.bool (noClock n (.int .i64 x))) ∧ Below w.heap.size w w' := by
  by_cases h : x < 0
  · have HE : Hid (noClock n (.int .i64 x) = true) := Lib.hid (by simp [noClock, h])
    go_enter Try.func82, Try.ntmps82
    go_wp2
    go_ret
    exact ⟨ret_bool HE.out.symm, Below.refl _ _⟩
  · have h0 : 0 ≤ x := by omega
    by_cases h1 : n ≤ x
    · have HE : Hid (noClock n (.int .i64 x) = true) := Lib.hid (by simp [noClock, h1])
      clear h
      go_enter Try.func82, Try.ntmps82
      go_wp2
      go_ret
      exact ⟨ret_bool HE.out.symm, Below.refl _ _⟩
    · have HE : Hid (noClock n (.int .i64 x) = false) := Lib.hid (by simp [noClock]; omega)
      have h2 : x < n := by omega
      clear h h1
      go_enter Try.func82, Try.ntmps82
      go_wp2
      go_ret
      exact ⟨ret_bool (by rw [HE.out]; simp; omega), Below.refl _ _⟩
end Go.Proofs.Ytjdldmecjhddnaa
