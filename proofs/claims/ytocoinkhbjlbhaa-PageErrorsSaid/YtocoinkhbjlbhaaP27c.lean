/-
  Plain laws of layer 27's model: the sizes of the pages depend on the numbers of notes and of their lines alone.
-/
import Derived.Test.YtocoinkhbjlbhaaP27b
namespace Go.Proofs.Ytocoinkhbjlbhaa

theorem noteAt_len {a b : List (List Line)} (h : a.map List.length = b.map List.length) (i : Int) : (noteAt a i).length = (noteAt b i).length := by
  have e := congrArg (fun l : List Nat => l[i.toNat]?) h
  simp only [List.getElem?_map] at e
  unfold noteAt
  cases ha : a[i.toNat]? with
  | none => cases hb : b[i.toNat]? with
    | none => rfl
    | some y => rw [ha, hb] at e; cases e
  | some x => cases hb : b[i.toNat]? with
    | none => rw [ha, hb] at e; cases e
    | some y => rw [ha, hb] at e; simpa using e

theorem flat_sim {a b : List (List Line)} (h : a.map List.length = b.map List.length) : ∀ (l : List Int), (l.flatMap (noteAt a)).length = (l.flatMap (noteAt b)).length
  | [] => rfl
  | i :: l => by rw [List.flatMap_cons, List.flatMap_cons, List.length_append, List.length_append, noteAt_len h i, flat_sim h l]

theorem fits_sim {h : Int} {x y : Line} (e : x.notes = y.notes) (n s q : Int) : fitsB h x n s q = fitsB h y n s q := by
  unfold fitsB
  rw [e]

theorem fill_sim (h : Int) {a b : List (List Line)} (hab : a.map List.length = b.map List.length) : ∀ (x y : List Line) (n : Int) (q q2 : List Line) (s : Int), x.map (·.notes) = y.map (·.notes) → q.length = q2.length →
    (fillM h a x n q s).1 = (fillM h b y n q2 s).1 ∧ (fillM h a x n q s).2.1.length = (fillM h b y n q2 s).2.1.length ∧ (fillM h a x n q s).2.2 = (fillM h b y n q2 s).2.2
  | [], [], n, q, q2, s, _, hq => ⟨rfl, hq, rfl⟩
  | x :: r, y :: r2, n, q, q2, s, hxy, hq => by
    simp only [List.map_cons, List.cons.injEq] at hxy
    obtain ⟨h1, h2⟩ := hxy
    rw [fillM, fillM, fits_sim h1, hq]
    have hl : (q ++ x.notes.flatMap (noteAt a)).length = (q2 ++ y.notes.flatMap (noteAt b)).length := by rw [List.length_append, List.length_append, hq, h1, flat_sim hab]
    split
    · rw [hl]
      exact fill_sim h hab r r2 _ _ _ _ h2 hl
    · exact ⟨rfl, hq, rfl⟩
  | [], y :: r2, _, _, _, _, hxy, _ => by cases hxy
  | x :: r, [], _, _, _, _, hxy, _ => by cases hxy

theorem set_sim (h : Int) {a b : List (List Line)} (hab : a.map List.length = b.map List.length) : ∀ (f : Nat) (x y q q2 : List Line), x.map (·.notes) = y.map (·.notes) → q.length = q2.length →
    (setM h a f x q).map (fun p => (p.body.length, p.notes.length)) = (setM h b f y q2).map (fun p => (p.body.length, p.notes.length))
  | 0, _, _, _, _, _, _ => rfl
  | f + 1, x, y, q, q2, hxy, hq => by
    have hl : x.length = y.length := by simpa using congrArg List.length hxy
    have he : (x.isEmpty && q.isEmpty) = (y.isEmpty && q2.isEmpty) := by
      have e1 : x.isEmpty = y.isEmpty := by cases x <;> cases y <;> first | rfl | (simp at hl)
      have e2 : q.isEmpty = q2.isEmpty := by cases q <;> cases q2 <;> first | rfl | (simp at hq)
      rw [e1, e2]
    obtain ⟨f1, f2, f3⟩ := fill_sim h hab x y 0 q q2 (min q.length (h - 1)) hxy hq
    rw [setM, setM, he]
    split
    · rfl
    · rw [hq] at f1 f2 f3 ⊢
      generalize fillM h a x 0 q (min (q2.length : Int) (h - 1)) = A at f1 f2 f3 ⊢
      generalize fillM h b y 0 q2 (min (q2.length : Int) (h - 1)) = B at f1 f2 f3 ⊢
      obtain ⟨n1, r1, s1⟩ := A
      obtain ⟨n2, r2, s2⟩ := B
      simp only at f1 f2 f3
      subst f1 f3
      have ih := set_sim h hab f (x.drop n1.toNat) (y.drop n1.toNat) (r1.drop s1.toNat) (r2.drop s1.toNat) (by rw [List.map_drop, List.map_drop, hxy]) (by rw [List.length_drop, List.length_drop, f2])
      simp only [List.map_cons, List.length_take, f2, hl]
      rw [ih]

theorem refs_map {x y : List Line} (h : x.map (·.notes) = y.map (·.notes)) : refs x = refs y := by
  have e : ∀ z : List Line, refs z = (z.map (·.notes)).flatten := fun z => by unfold refs; rw [List.flatMap_def]
  rw [e, e, h]

theorem shape_sim (h : Int) {a b : List (List Line)} (hab : a.map List.length = b.map List.length) {x y : List Line} (hxy : x.map (·.notes) = y.map (·.notes)) :
    (setAll h x a).map (fun p => (p.body.length, p.notes.length)) = (setAll h y b).map (fun p => (p.body.length, p.notes.length)) := by
  unfold setAll
  have hl : x.length = y.length := by simpa using congrArg List.length hxy
  have hs : sumR a x = sumR b y := by unfold sumR; rw [refs_map hxy, flat_sim hab]
  rw [hl, hs]
  exact set_sim h hab _ _ _ _ _ hxy rfl

theorem OKB.sim {a b : List (List Line)} (hab : a.map List.length = b.map List.length) {x y : List Line} (hxy : x.map (·.notes) = y.map (·.notes)) (h : OKB x a) : OKB y b := by
  have hl : x.length = y.length := by simpa using congrArg List.length hxy
  have hn : a.length = b.length := by simpa using congrArg List.length hab
  refine ⟨by have := h.lb; omega, by have := h.ln; omega, fun z hz => ?_, by rw [← refs_map hxy, ← hn]; exact h.rf⟩
  have : z.length ∈ a.map List.length := by rw [hab]; exact List.mem_map.2 ⟨z, hz, rfl⟩
  obtain ⟨z2, hz2, e⟩ := List.mem_map.1 this
  obtain ⟨h1, h2⟩ := h.nn z2 hz2
  refine ⟨fun hc => h1 (List.eq_nil_of_length_eq_zero ?_), by omega⟩
  rw [e, hc]
  rfl

end Go.Proofs.Ytocoinkhbjlbhaa
