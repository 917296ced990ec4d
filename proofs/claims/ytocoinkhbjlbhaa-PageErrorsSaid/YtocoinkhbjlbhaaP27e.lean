/-
  Plain laws of layer 27's model: the first lines, with their notes.
-/
import Derived.Test.YtocoinkhbjlbhaaP27d
namespace Go.Proofs.Ytocoinkhbjlbhaa

theorem flat_congr {a b : List (List Line)} : ∀ (l : List Int), (∀ i ∈ l, noteAt a i = noteAt b i) → l.flatMap (noteAt a) = l.flatMap (noteAt b)
  | [], _ => rfl
  | i :: l, h => by rw [List.flatMap_cons, List.flatMap_cons, h i (by simp), flat_congr l (fun j hj => h j (by simp [hj]))]

theorem fill_congr (h : Int) {a b : List (List Line)} : ∀ (x : List Line) (n : Int) (q : List Line) (s : Int), (∀ i ∈ refs x, noteAt a i = noteAt b i) → fillM h a x n q s = fillM h b x n q s
  | [], _, _, _, _ => rfl
  | x :: r, n, q, s, hr => by
    have h1 : x.notes.flatMap (noteAt a) = x.notes.flatMap (noteAt b) := flat_congr _ fun i hi => hr i (by simp [refs, hi])
    rw [fillM, fillM, h1]
    split
    · exact fill_congr h r _ _ _ fun i hi => hr i (by simp only [refs, List.flatMap_cons, List.mem_append]; exact .inr hi)
    · rfl

theorem set_congr (h : Int) {a b : List (List Line)} : ∀ (f : Nat) (x q : List Line), (∀ i ∈ refs x, noteAt a i = noteAt b i) → setM h a f x q = setM h b f x q
  | 0, _, _, _ => rfl
  | f + 1, x, q, hr => by
    rw [setM, setM, fill_congr h x _ _ _ hr]
    split
    · rfl
    · simp only
      rw [set_congr h f _ _ fun i hi => hr i (refs_sub hi)]

theorem refs_len (body : List Line) (k : Nat) (hk : k < body.length) : (refs (body.take (k + 1))).length = (refs (body.take k)).length + body[k].notes.length := by
  unfold refs
  rw [flat_take _ _ _ hk, List.length_append]

theorem OKB.refs_take {body : List Line} {notes : List (List Line)} (h : OKB body notes) (k : Nat) : (refs (body.take k)).length ≤ notes.length ∧ refs (body.take k) = (List.range (refs (body.take k)).length).map fun (i : Nat) => (i : Int) := by
  have e : refs body = refs (body.take k) ++ refs (body.drop k) := by
    have : ∀ x y : List Line, refs (x ++ y) = refs x ++ refs y := fun x y => by unfold refs; rw [List.flatMap_append]
    rw [← this, List.take_append_drop]
  have hl : (refs (body.take k)).length ≤ notes.length := by
    have := congrArg List.length h.rf
    rw [e] at this
    simp at this
    omega
  refine ⟨hl, ?_⟩
  have h2 := congrArg (List.take (refs (body.take k)).length) h.rf
  rw [e, List.take_left, ← List.map_take, List.take_range, Nat.min_eq_left hl] at h2
  exact h2

theorem pre_chk {body : List Line} {notes : List (List Line)} (hO : OKB body notes) (k : Nat) {t : Int} (h4 : 4 ≤ t ∧ t ≤ 100) : chkM (body.take k) (notes.take (refs (body.take k)).length) t = 0 := by
  obtain ⟨h1, h2⟩ := hO.refs_take k
  have hlen : (notes.take (refs (body.take k)).length).length = (refs (body.take k)).length := by rw [List.length_take]; omega
  unfold chkM
  rw [if_neg (by omega)]
  have : (notes.take (refs (body.take k)).length).any (fun x => decide ((x.length : Int) = 0)) = false := by
    rw [List.any_eq_false]
    intro x hx
    have h1 := (hO.nn x (List.mem_of_mem_take hx)).1
    have : x.length ≠ 0 := fun hc => h1 (List.eq_nil_of_length_eq_zero hc)
    simp
    exact h1
  rw [this, hlen]
  generalize refs (body.take k) = l at h2
  rw [h2, List.range_eq_range']
  have := ordM_range' l.length l.length 0 (by omega)
  simp only [Nat.zero_add] at this
  rw [show ((0 : Nat) : Int) = 0 from rfl] at this
  simp only [List.length_map, List.length_range']
  rw [this]
  simp

theorem pre_sum {body : List Line} {notes : List (List Line)} (hO : OKB body notes) (k : Nat) : sumR (notes.take (refs (body.take k)).length) (body.take k) ≤ 1080 := by
  obtain ⟨h1, h2⟩ := hO.refs_take k
  have hc : ∀ i ∈ refs (body.take k), noteAt (notes.take (refs (body.take k)).length) i = noteAt notes i := by
    intro i hi
    rw [h2] at hi
    obtain ⟨j, hj, rfl⟩ := List.mem_map.1 hi
    have hj2 := List.mem_range.1 hj
    unfold noteAt
    rw [Int.toNat_natCast, List.getElem?_take, if_pos hj2]
  have hs : sumR (notes.take (refs (body.take k)).length) (body.take k) = sumR notes (body.take k) := by
    unfold sumR
    rw [flat_congr _ hc]
  rw [hs]
  exact Nat.le_trans (sumR_take_le notes body k) (ok_sum hO)

theorem set_take {h : Int} (hh : 4 ≤ h) {body : List Line} {notes : List (List Line)} (hO : OKB body notes) (k : Nat) :
    (setAll h (body.take k) (notes.take (refs (body.take k)).length)).length ≤ (setAll h body notes).length ∧
    (setAll h (body.take k) (notes.take (refs (body.take k)).length)).dropLast = (setAll h body notes).take ((setAll h (body.take k) (notes.take (refs (body.take k)).length)).length - 1) := by
  obtain ⟨h1, h2⟩ := hO.refs_take k
  have hc : ∀ i ∈ refs (body.take k), noteAt (notes.take (refs (body.take k)).length) i = noteAt notes i := by
    intro i hi
    rw [h2] at hi
    obtain ⟨j, hj, rfl⟩ := List.mem_map.1 hi
    have hj2 := List.mem_range.1 hj
    unfold noteAt
    rw [Int.toNat_natCast, List.getElem?_take, if_pos hj2]
  have hs : sumR (notes.take (refs (body.take k)).length) (body.take k) = sumR notes (body.take k) := by
    unfold sumR
    rw [flat_congr _ hc]
  unfold setAll
  rw [hs, set_congr h _ _ _ hc]
  exact set_pre h hh notes _ body [] k _ (by simp) (by simp)

end Go.Proofs.Ytocoinkhbjlbhaa
