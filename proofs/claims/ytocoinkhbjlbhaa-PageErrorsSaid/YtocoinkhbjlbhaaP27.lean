/-
  Plain laws of layer 27's model: the pages have all lines, in order, and none has more than the height.
-/
import Derived.Test.YtocoinkhbjlbhaaS9
namespace Go.Proofs.Ytocoinkhbjlbhaa

/-- The notes that some lines refer to, in order. -/
def notesOf (notes : List (List Line)) (body : List Line) : List Line := (refs body).flatMap (noteAt notes)

theorem notesOf_len (notes : List (List Line)) (body : List Line) : (notesOf notes body).length = sumR notes body := rfl
theorem notesOf_append (notes : List (List Line)) (a b : List Line) : notesOf notes (a ++ b) = notesOf notes a ++ notesOf notes b := by
  unfold notesOf refs
  rw [List.flatMap_append, List.flatMap_append]
theorem notesOf_cons (notes : List (List Line)) (x : Line) (b : List Line) : notesOf notes (x :: b) = x.notes.flatMap (noteAt notes) ++ notesOf notes b := by
  unfold notesOf refs
  rw [List.flatMap_cons, List.flatMap_append]

/-- What filling a page keeps. -/
theorem fill_inv (h : Int) (notes : List (List Line)) : ∀ (body : List Line) (n : Int) (q : List Line) (s : Int), 0 ≤ n → 0 ≤ s → s ≤ q.length → n + s + min s 1 ≤ h → (s = 0 → q.length = 0) →
    ∃ (k : Nat) (n' s' : Int) (q' : List Line), fillM h notes body n q s = (n', q', s') ∧ n' = n + k ∧ k ≤ body.length ∧ q' = q ++ notesOf notes (body.take k) ∧ s ≤ s' ∧ s' ≤ q'.length ∧ n' + s' + min s' 1 ≤ h ∧ (s' = 0 → q'.length = 0) ∧
      (k < body.length → ∃ x, body[k]? = some x ∧ fitsB h x n' s' q'.length = false)
  | [], n, q, s, h0, h1, h2, h3, h4 => ⟨0, n, s, q, rfl, by simp, by simp, by simp [notesOf, refs], by omega, h2, h3, h4, by simp⟩
  | x :: r, n, q, s, h0, h1, h2, h3, h4 => by
    rw [fillM]
    split
    · rename_i hb
      obtain ⟨f1, f2⟩ := fits_bd hb h1 (by omega)
      have hlen : (q ++ x.notes.flatMap (noteAt notes)).length = q.length + (x.notes.flatMap (noteAt notes)).length := List.length_append
      have hz : x.notes = [] → (x.notes.flatMap (noteAt notes)).length = 0 := fun hx => by rw [hx]; rfl
      have hg := growM_bd h (n + 1) s (q ++ x.notes.flatMap (noteAt notes)).length h1 (by omega) (by omega) (fun a b => by
        rcases f2 with hx | hx
        · have := hz hx
          have := h4 a
          omega
        · omega)
      obtain ⟨k, n', s', q', e, e1, e2, e3, e4, e5, e6, e7, e8⟩ := fill_inv h notes r (n + 1) _ _ (by omega) (by omega) hg.2.1 hg.2.2.1 (fun a => by have := hg.2.2.2 a; omega)
      refine ⟨k + 1, n', s', q', e, by omega, by simp only [List.length_cons]; omega, ?_, by omega, e5, e6, e7, fun hk => ?_⟩
      · rw [e3, List.take_succ_cons, notesOf_cons, List.append_assoc]
      · rw [List.getElem?_cons_succ]
        exact e8 (by simp only [List.length_cons] at hk; omega)
    · rename_i hb
      exact ⟨0, n, s, q, rfl, by simp, by simp, by simp [notesOf, refs], by omega, h2, h3, h4, fun _ => ⟨x, rfl, by simpa using hb⟩⟩

/-- One page, and what is left. -/
theorem set_step (h : Int) (hh : 4 ≤ h) (notes : List (List Line)) (f : Nat) (body q : List Line) (hne : 0 < body.length + q.length) :
    ∃ (k m : Nat) (q' : List Line), q' = q ++ notesOf notes (body.take k) ∧ k ≤ body.length ∧ m ≤ q'.length ∧ (k : Int) + m + min (m : Int) 1 ≤ h ∧ 0 < k + m ∧ (m = 0 → q'.length = 0) ∧
      setM h notes (f + 1) body q = ⟨0, 0, 0, 0, body.take k, q'.take m⟩ :: setM h notes f (body.drop k) (q'.drop m) ∧
      min q.length (h.toNat - 1) ≤ m ∧ (k < body.length → ∃ x, body[k]? = some x ∧ fitsB h x k m q'.length = false) := by
  obtain ⟨k, n', s', q', e, e1, e2, e3, e4, e5, e6, e7, e8⟩ := fill_inv h notes body 0 q (min q.length (h - 1)) (by omega) (by omega) (by omega) (by omega) (by omega)
  have hpos : 0 < k + s'.toNat := by
    rcases Nat.eq_zero_or_pos (k + s'.toNat) with hz | hz
    · have hk : k = 0 := by omega
      have hs : s' = 0 := by omega
      have hq := e7 hs
      subst hk
      have hq0 : q.length = 0 := by rw [e3] at hq; simp [notesOf, refs] at hq; simp [hq]
      obtain ⟨x, hx, hf⟩ := e8 (by omega)
      rw [show n' = 0 by omega, hs, hq, show ((0 : Nat) : Int) = 0 from rfl, fits_first x hh] at hf
      cases hf
    · exact hz
  have hcs : (s'.toNat : Int) = s' := by omega
  refine ⟨k, s'.toNat, q', e3, e2, by omega, by omega, hpos, fun hz => e7 (by omega), ?_, by omega, fun hk => ?_⟩
  · have hne' : (body.isEmpty && q.isEmpty) = false := by
      cases body with
      | nil => cases q with
        | nil => simp at hne
        | cons => rfl
      | cons => rfl
    rw [setM, hne', e]
    simp only [Bool.false_eq_true, if_false]
    rw [show n'.toNat = k by omega]
  · obtain ⟨x, hx, hf⟩ := e8 hk
    refine ⟨x, hx, ?_⟩
    rw [hcs, show (k : Int) = n' by omega]
    exact hf

theorem set_nil (h : Int) (notes : List (List Line)) (f : Nat) : setM h notes f [] [] = [] := by cases f <;> rfl

/-- The pages have all lines, in order; and their sizes. -/
theorem set_order (h : Int) (hh : 4 ≤ h) (notes : List (List Line)) : ∀ (f : Nat) (body q : List Line), body.length + q.length + sumR notes body < f →
    (setM h notes f body q).flatMap (·.body) = body ∧ (setM h notes f body q).flatMap (·.notes) = q ++ notesOf notes body ∧ (setM h notes f body q).length ≤ body.length + q.length + sumR notes body ∧ ∀ p ∈ setM h notes f body q, 1 ≤ usedM p ∧ usedM p ≤ h
  | 0, _, _, hf => by omega
  | f + 1, body, q, hf => by
    rcases Nat.eq_zero_or_pos (body.length + q.length) with hz | hne
    · have h1 : body = [] := List.eq_nil_of_length_eq_zero (by omega)
      have h2 : q = [] := List.eq_nil_of_length_eq_zero (by omega)
      subst h1 h2
      rw [set_nil]
      exact ⟨rfl, by simp [notesOf, refs], by simp, by simp⟩
    · obtain ⟨k, m, q', e1, e2, e3, e4, e5, e6, e7, _, _⟩ := set_step h hh notes f body q hne
      have hb : body = body.take k ++ body.drop k := (List.take_append_drop k body).symm
      have hsum : sumR notes body = sumR notes (body.take k) + sumR notes (body.drop k) := by
        rw [← notesOf_len, ← notesOf_len, ← notesOf_len, ← List.length_append, ← notesOf_append, ← hb]
      have hq' : q'.length = q.length + sumR notes (body.take k) := by rw [e1, List.length_append, notesOf_len]
      have hd1 : (body.drop k).length = body.length - k := List.length_drop
      have hd2 : (q'.drop m).length = q'.length - m := List.length_drop
      obtain ⟨i1, i2, i3, i4⟩ := set_order h hh notes f (body.drop k) (q'.drop m) (by omega)
      rw [e7]
      refine ⟨?_, ?_, by simp only [List.length_cons]; omega, fun p hp => ?_⟩
      · rw [List.flatMap_cons, i1]
        exact hb.symm
      · rw [List.flatMap_cons, i2]
        simp only
        rw [← List.append_assoc, List.take_append_drop, e1, List.append_assoc, ← notesOf_append, ← hb]
      · rcases List.mem_cons.1 hp with rfl | hp
        · unfold usedM
          simp only [List.length_take]
          omega
        · exact i4 p hp

/-- All notes, in order. -/
theorem notes_all {body : List Line} {notes : List (List Line)} (h : OKB body notes) : notesOf notes body = notes.flatten := by
  unfold notesOf
  rw [h.rf, List.flatMap_map]
  have : ∀ (l : List (List Line)) (a : List (List Line)), (List.range l.length).flatMap (fun (i : Nat) => noteAt (a ++ l) (i + a.length : Nat)) = l.flatten := by
    intro l
    induction l with
    | nil => intro a; rfl
    | cons x l ih =>
      intro a
      rw [List.length_cons, List.range_succ_eq_map, List.flatMap_cons, List.flatMap_map, List.flatten_cons]
      congr 1
      · simp [noteAt]
      · have := ih (a ++ [x])
        simp only [List.append_assoc, List.singleton_append, List.length_append, List.length_singleton] at this
        rw [← this]
        congr 1
        funext i
        congr 2
        simp
        omega
  simpa using this notes []

theorem flat_len {α : Type} : ∀ (l : List (List α)) (k : Nat), (∀ x ∈ l, x.length ≤ k) → l.flatten.length ≤ k * l.length
  | [], _, _ => by simp
  | x :: l, k, h => by
    have h1 := h x (by simp)
    have h2 := flat_len l k (fun y hy => h y (by simp [hy]))
    simp only [List.flatten_cons, List.length_append, List.length_cons, Nat.mul_add]
    omega

theorem ok_sum {body : List Line} {notes : List (List Line)} (h : OKB body notes) : sumR notes body ≤ 1080 := by
  rw [← notesOf_len, notes_all h]
  have := flat_len notes 9 (fun x hx => (h.nn x hx).2)
  have := h.lb
  have := h.ln
  omega

theorem ordM_range' (k : Int) : ∀ (n a : Nat), (a + n : Nat) ≤ k → ordM ((List.range' a n).map fun (i : Nat) => (i : Int)) a k = some ((a + n : Nat) : Int)
  | 0, a, _ => rfl
  | n + 1, a, h => by
    rw [List.range'_succ, List.map_cons, ordM, if_neg (by omega)]
    have := ordM_range' k n (a + 1) (by omega)
    rw [show ((a : Int) + 1) = ((a + 1 : Nat) : Int) by omega, this]
    congr 2
    omega

theorem ok_chk {body : List Line} {notes : List (List Line)} (h : OKB body notes) {t : Int} (h4 : 4 ≤ t ∧ t ≤ 100) : chkM body notes t = 0 := by
  unfold chkM
  rw [if_neg (by omega)]
  have : notes.any (fun x => decide ((x.length : Int) = 0)) = false := by
    rw [List.any_eq_false]
    intro x hx
    have h1 := (h.nn x hx).1
    have : x.length ≠ 0 := fun hc => h1 (List.eq_nil_of_length_eq_zero hc)
    simp
    exact h1
  rw [this, h.rf, List.range_eq_range']
  have := ordM_range' notes.length notes.length 0 (by omega)
  simp only [Nat.zero_add] at this
  rw [show ((0 : Nat) : Int) = 0 from rfl] at this
  rw [this]
  simp

end Go.Proofs.Ytocoinkhbjlbhaa
