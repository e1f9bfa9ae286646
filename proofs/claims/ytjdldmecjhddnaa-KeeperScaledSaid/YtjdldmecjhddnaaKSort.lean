/- The contract of slices.SortFunc at pairs, sorted by keeper.fronts$1. -/
import Derived.Test.YtjdldmecjhddnaaKLay
import Derived.Test.YtjdldmecjhddnaaK6
import Derived.Test.YtjdldmecjhddnaaKSortW
import Derived.Shelf.SlSortCmp.WholeK
import Derived.Shelf.SlSortCmp.NoneTotal
namespace Go.Proofs.Ytjdldmecjhddnaa
open Go.RowKit
set_option linter.unusedVariables false
set_option linter.unusedSimpArgs false

set_option maxHeartbeats 2000000 in
set_option maxRecDepth 100000 in
theorem c_fronts1 (x y : Int × Int) (w : World) : Calls Try.prog 111 #[.agg #[.int .i64 x.1, .int .i64 x.2], .agg #[.int .i64 y.1, .int .i64 y.2]] w fun e w' => e = .returned (.int .i64 (cmpP x y)) ∧ ∃ q os', w' = Sort.grow (w.drewN q) os' := by
  have HE := Lib.hid (show cmpP x y = orL [cmpI x.1 y.1, cmpI x.2 y.2] from rfl)
  obtain ⟨x1, x2⟩ := x
  obtain ⟨y1, y2⟩ := y
  simp only at HE ⊢
  go_enter Try.func111, Try.ntmps111
  go_wp2_with fail
  obtain ⟨w0, hw0⟩ : ∃ w0, (w.alloc (.cells #[.int .i64 x1, .int .i64 x2] 54)).alloc (.cells #[.int .i64 y1, .int .i64 y2] 54) = w0 := ⟨_, rfl⟩
  have q1 : w0.cell? ⟨w.heap.size, 0, none⟩ = some (.int .i64 x1) := by rw [← hw0]; exact cal (by simp) _
  have q2 : w0.cell? ⟨w.heap.size, 1, none⟩ = some (.int .i64 x2) := by rw [← hw0]; exact cal (by simp) _
  have q3 : w0.cell? ⟨w.heap.size + 1, 0, none⟩ = some (.int .i64 y1) := by rw [← hw0]; simp
  have q4 : w0.cell? ⟨w.heap.size + 1, 1, none⟩ = some (.int .i64 y2) := by rw [← hw0]; simp
  have HW := Lib.hid hw0
  rw [hw0]
  clear hw0
  go_region_held3 (fun w' => w'.cell? ⟨w.heap.size, 0, none⟩ = some (.int .i64 x1) ∧ w'.cell? ⟨w.heap.size, 1, none⟩ = some (.int .i64 x2) ∧ w'.cell? ⟨w.heap.size + 1, 0, none⟩ = some (.int .i64 y1) ∧ w'.cell? ⟨w.heap.size + 1, 1, none⟩ = some (.int .i64 y2)) (go_keep)
    (first
      | (go_at_call 113; refine (c_Compare _ _ _).mono ?_; rintro e w' ⟨rfl, rfl⟩)
      | (go_at_call 112; refine (c_Or [cmpI x1 y1, cmpI x2 y2] _ _ _ (by exact rdI_new _ [cmpI x1 y1, cmpI x2 y2] _) (by simp)).mono ?_; rintro e w' ⟨rfl, rfl⟩))
  go_wp2
  go_ret
  exact ⟨ret_int HE.out.symm, 1, _, by rw [← HW.out, Sort.alloc_eq_grow, Sort.alloc_eq_grow, Sort.alloc_eq_grow, Sort.grow_grow, Sort.grow_grow]; rfl⟩

theorem c_SortP (xs : List (Int × Int)) (v : Value) (base : Nat) (w : World) (hown : w.ownsRow base 54 2 v xs.length (xs.flatMap encP)) (hl : xs.length < 4611686018427387904) :
    Calls Try.prog 110 #[v, .func (.func 111) #[] #[]] w fun e w' => e = .returned (.tuple #[]) ∧ w'.ownsRow base 54 2 v (sortP xs).length ((sortP xs).flatMap encP) ∧ w.grownBy w' v.ownBlock := by
  rcases hown.2 with ⟨rfl, h0⟩ | ⟨g, cap, cur, rfl, hb, hh, hc, hm, hs, ht⟩
  · have hx : xs = [] := List.length_eq_zero_iff.1 h0
    subst hx
    have hcon := AnyF.slices_SortFunc_none Try.sortP none 0 (.func (.func 111) #[] #[]) w
    change Calls Try.prog 110 _ _ _ at hcon
    refine hcon.mono ?_
    rintro e w' ⟨rfl, rfl⟩
    exact ⟨rfl, World.ownsRow_nil _ _ _ _, ⟨rfl, rfl, rfl, Nat.le_refl _, fun _ _ _ => rfl⟩⟩
  · have eg : ∀ args w, (callFunc 111 args).run Try.prog w = .ok (.enter 111 args) w := enters_of Try.func111 (by kernel_rfl) rfl
    have hgl : g < w.heap.size := (hown.lt g rfl).2
    have hcon := AnyQ.slices_SortFunc Try.sortP 2 Try.isAgg54 Try.sizeOf54 encP (fun _ => rfl) (fun x v hv => by simp [encP] at hv; rcases hv with rfl | rfl <;> rfl) cmpP swoP 111 #[] g 0 cap xs.toArray w eg (fun _ _ _ _ x y => c_fronts1 x y _) (own_holds hown) hgl (by simpa using hl)
    change Calls Try.prog 110 _ _ _ at hcon
    rw [List.size_toArray] at hcon
    refine hcon.mono ?_
    rintro e w' ⟨rfl, d, n, os, hp, hso, rfl⟩
    rw [ltOf_cmpP] at hso
    obtain ⟨hd, hl2⟩ := perm_of (by simpa using hp) (by simpa using hso)
    obtain ⟨h1, h2⟩ := sorted_own hown n d os hd
    rw [hl2] at h1
    refine ⟨rfl, ?_, h2⟩
    rw [sortP_len]
    exact h1
end Go.Proofs.Ytjdldmecjhddnaa
