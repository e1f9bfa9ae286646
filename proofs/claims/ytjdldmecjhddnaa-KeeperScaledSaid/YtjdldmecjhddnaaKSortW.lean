/- The sort's worlds, told of rows of the call's own. No program in sight. -/
import Derived.Test.YtjdldmecjhddnaaKMem3
import Derived.Shelf.SlSortCmp.KitK
namespace Go.Proofs.Ytjdldmecjhddnaa
open Go.RowKit Go.Sort
set_option linter.unusedVariables false
set_option linter.unusedSimpArgs false

theorem encP_len (x : Int × Int) : (encP x).length = 2 := rfl
theorem flatP_get : ∀ (l : List (Int × Int)) (t : Nat) (h : t < l.length * 2), (l.flatMap encP)[t]? = some (if t % 2 = 0 then .int .i64 (l[t / 2]'(by omega)).1 else .int .i64 (l[t / 2]'(by omega)).2)
  | [], t, h => by simp at h
  | x :: r, t, h => by
    rw [List.flatMap_cons]
    rcases Nat.lt_or_ge t 2 with h2 | h2
    · rw [List.getElem?_append_left (by rw [encP_len]; exact h2)]
      rcases t with _ | _ | t
      · simp [encP]
      · simp [encP]
      · omega
    · rw [List.getElem?_append_right (by rw [encP_len]; exact h2), encP_len, flatP_get r (t - 2) (by simp at h; omega)]
      obtain ⟨u, rfl⟩ : ∃ u, t = u + 2 := ⟨t - 2, by omega⟩
      have e1 : (u + 2) / 2 = u / 2 + 1 := by omega
      have e2 : (u + 2) % 2 = u % 2 := by omega
      simp [e1, e2]
theorem flatK_get (d : Array (Int × Int)) (t : Nat) (h : t < d.size * 2) : (flatK encP 2 d)[t]! = if t % 2 = 0 then .int .i64 (d[t / 2]!).1 else .int .i64 (d[t / 2]!).2 := by
  rw [get_flatK _ _ _ _ h]
  rcases Nat.mod_two_eq_zero_or_one t with e | e <;> simp [e, encP]
theorem flatK_list (d : Array (Int × Int)) : (flatK encP 2 d).toList = d.toList.flatMap encP := by
  refine List.ext_getElem? fun t => ?_
  rcases Nat.lt_or_ge t (d.size * 2) with h | h
  · rw [flatP_get d.toList t (by simpa using h), Array.getElem?_toList, Array.getElem?_eq_getElem (by simpa using h), ← getElem!_pos (flatK encP 2 d) t (by simpa using h), flatK_get d t h]
    have h2 : t / 2 < d.size := by omega
    rw [getElem!_pos d (t / 2) h2]
    rfl
  · rw [List.getElem?_eq_none (by simpa using h), List.getElem?_eq_none (by rw [flat_len (k := 2) (fun _ => rfl)]; simpa using h)]
theorem own_holds {w : World} {base : Nat} {e : TypeId} {g cap : Nat} {xs : List (Int × Int)} (h : w.ownsRow base e 2 (.slice (some ⟨g, 0, none⟩) xs.length cap) xs.length (xs.flatMap encP)) : HoldsK encP 2 w g 0 xs.toArray := by
  intro j hj
  have hj' : j < xs.length * 2 := by simpa using hj
  have hf := h.cells (g := g) rfl j ((flatK encP 2 xs.toArray)[j]!) (by
    have : xs.flatMap encP = (flatK encP 2 xs.toArray).toList := by rw [flatK_list]
    rw [this, Array.getElem?_toList, Array.getElem?_eq_getElem hj, getElem!_pos (flatK encP 2 xs.toArray) j hj])
  refine ⟨?_, ?_⟩
  · simpa [Addr.add_lit] using hf
  · rcases h.2 with ⟨h1, _⟩ | ⟨g', cap', cur, e1, hb, hh, _⟩
    · cases h1
    · injection e1 with e2 _ _
      injection e2 with e2
      injection e2 with e2
      subst e2
      simp [World.frozen?, hh]
theorem sorted_own {w : World} {base : Nat} {e : TypeId} {g cap : Nat} {xs : List (Int × Int)} (h : w.ownsRow base e 2 (.slice (some ⟨g, 0, none⟩) xs.length cap) xs.length (xs.flatMap encP)) (n : Nat) (d : Array (Int × Int)) (os : Array Obj) (hd : d.size = xs.length) :
    (sortWorldK encP 2 w g 0 n d os).ownsRow base e 2 (.slice (some ⟨g, 0, none⟩) xs.length cap) xs.length (d.toList.flatMap encP) ∧ w.grownBy (sortWorldK encP 2 w g 0 n d os) (some g) := by
  obtain ⟨hl, h2⟩ := h
  rcases h2 with ⟨h1, _⟩ | ⟨g', cap', cur, e1, hb, hh, hc, hm, hs, ht⟩
  · cases h1
  injection e1 with e2 _ e3
  injection e2 with e2
  injection e2 with e2
  subst e2 e3
  have hgl : g < w.heap.size := by
    rcases Nat.lt_or_ge g w.heap.size with h' | h'
    · exact h'
    · rw [Array.getElem?_eq_none h'] at hh; cases hh
  have hblk : ∀ k, k < w.heap.size → (sortWorldK encP 2 w g 0 n d os).heap[k]? = if g = k then (w.heap[k]?).map (onCells (putCells id 0 (flatK encP 2 d))) else w.heap[k]? := by
    intro k hk
    show ((w.heap.modify g (onCells (putCells id 0 (flatK encP 2 d)))) ++ os)[k]? = _
    rw [Array.getElem?_append_left (by simpa using hk), Array.getElem?_modify]
  have hfl : (flatK encP 2 d).size = xs.length * 2 := by rw [size_flatK, hd]
  refine ⟨⟨by rw [flat_len (k := 2) (fun _ => rfl), Array.length_toList, hd], .inr ⟨g, cap, putCells id 0 (flatK encP 2 d) cur, rfl, hb, ?_, hc, hm, by simp [putCells, hs], ?_⟩⟩, ⟨rfl, rfl, rfl, ?_, fun k hk hne => ?_⟩⟩
  · rw [hblk g hgl, if_pos rfl, hh]; rfl
  · rw [← flatK_list]
    refine List.ext_getElem? fun t => ?_
    rw [List.getElem?_take]
    have hcs : xs.length * 2 ≤ cur.size := by rw [hs]; omega
    split
    · rename_i hlt
      have q1 : t < cur.size := by omega
      have q2 : t < (flatK encP 2 d).size := by omega
      rw [Array.getElem?_toList, Array.getElem?_toList, Array.getElem?_eq_getElem q2, putCells, Array.getElem?_mapIdx, Array.getElem?_eq_getElem q1]
      simp only [Option.map_some, Nat.zero_le, Nat.zero_add, true_and, Nat.sub_zero]
      rw [if_pos q2, ← getElem!_pos (flatK encP 2 d) t q2]
      rfl
    · rename_i hlt
      rw [Array.getElem?_toList, Array.getElem?_eq_none (by omega)]
  · show w.heap.size ≤ ((w.heap.modify g (onCells (putCells id 0 (flatK encP 2 d)))) ++ os).size
    simp
  · rw [hblk k hk, if_neg (fun e => hne (by rw [e]))]
theorem perm_of {xs : List (Int × Int)} {d : Array (Int × Int)} (h : PermIn 0 xs.toArray.size xs.toArray d) (hs : SortedIn ltP 0 xs.toArray.size d) : d.size = xs.length ∧ d.toList = sortP xs := by
  obtain ⟨hsz, _, hp⟩ := h
  have hsz' : d.size = xs.length := by simpa using hsz
  have e1 : d.extract 0 xs.toArray.size = d := by rw [← hsz]; exact Array.extract_size
  rw [e1, Array.extract_size] at hp
  refine ⟨hsz', sort_is hp ?_⟩
  rw [List.pairwise_iff_getElem]
  intro i j hi hj hij
  have hi' : i < d.size := by simpa using hi
  have hj' : j < d.size := by simpa using hj
  have := hs i j (Nat.zero_le _) hij (by simp; omega)
  rw [getElem!_pos d i hi', getElem!_pos d j hj'] at this
  exact this
def cmpP (x y : Int × Int) : Int := orL [cmpI x.1 y.1, cmpI x.2 y.2]
theorem cmpP_lt (x y : Int × Int) : ltOf cmpP x y = ltP x y := by
  unfold ltOf cmpP ltP
  rcases Int.lt_trichotomy x.1 y.1 with h | h | h
  · rw [cmpI_lt h]; simp [orL, h]
  · rw [h, cmpI_eq]
    rcases Int.lt_trichotomy x.2 y.2 with h2 | h2 | h2
    · rw [cmpI_lt h2]; simp [orL, h2]
    · rw [h2, cmpI_eq]; simp [orL]
    · rw [cmpI_gt h2]; simp [orL]; omega
  · rw [cmpI_gt h]; simp [orL]; omega
theorem ltOf_cmpP : ltOf cmpP = ltP := funext fun x => funext fun y => cmpP_lt x y
theorem swoP : SWO (ltOf cmpP) where
  irrefl x := by rw [ltOf_cmpP]; simp [ltP]
  trans x y z h1 h2 := by rw [ltOf_cmpP] at *; rw [ltP_iff] at *; omega
  ntrans x y z h1 h2 := by
    rw [ltOf_cmpP] at *
    have h1 : leP y x := h1
    have h2 : leP z y := h2
    exact leP_trans h2 h1
end Go.Proofs.Ytjdldmecjhddnaa
