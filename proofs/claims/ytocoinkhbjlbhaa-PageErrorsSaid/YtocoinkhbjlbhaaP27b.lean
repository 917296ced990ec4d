/-
  Plain laws of layer 27's model: where each page begins, and that a page is full.
-/
import Derived.Test.YtocoinkhbjlbhaaP27
namespace Go.Proofs.Ytocoinkhbjlbhaa

/-- A page that doesn't show all notes it knows is full. -/
theorem fill_full (h : Int) (notes : List (List Line)) : ∀ (body : List Line) (n : Int) (q : List Line) (s : Int), 0 ≤ s → s ≤ q.length → (s = 0 → q.length = 0) → n + s + min s 1 ≤ h → (s < q.length → n + s + min s 1 = h) →
    ∀ n' q' s', fillM h notes body n q s = (n', q', s') → s' < (q'.length : Int) → n' + s' + min s' 1 = h
  | [], n, q, s, _, _, _, _, hf, n', q', s', e, hlt => by
    rw [fillM] at e
    cases e
    exact hf hlt
  | x :: r, n, q, s, h1, h2, h4, h3, hf, n', q', s', e, hlt => by
    rw [fillM] at e
    split at e
    · rename_i hb
      obtain ⟨f1, f2⟩ := fits_bd hb h1 (by omega)
      have hlen : (q ++ x.notes.flatMap (noteAt notes)).length = q.length + (x.notes.flatMap (noteAt notes)).length := List.length_append
      have hz : x.notes = [] → (x.notes.flatMap (noteAt notes)).length = 0 := fun hx => by rw [hx]; rfl
      have hg := growM_bd h (n + 1) s (q ++ x.notes.flatMap (noteAt notes)).length h1 (by omega) (by omega) (fun a b => by
        rcases f2 with hx | hx
        · have := hz hx
          have := h4 a
          omega
        · omega)
      refine fill_full h notes r (n + 1) _ _ (by omega) hg.2.1 (fun a => by have := hg.2.2.2 a; omega) hg.2.2.1 (fun hl => ?_) n' q' s' e hlt
      have hsq : s = q.length := by
        rcases Int.lt_or_eq_of_le h2 with hl2 | hl2
        · have := hf hl2
          omega
        · exact hl2
      unfold growM at hl hg ⊢
      split
      · rename_i hgt
        rw [if_pos hgt] at hl hg
        omega
      · rename_i hgt
        rw [if_neg hgt] at hl
        omega
    · cases e
      exact hf hlt

/-- How many lines of the body stand before a page; how many of notes. -/
def atB (ps : List Pg) (i : Nat) : Nat := ((ps.take i).flatMap (·.body)).length
def atN (ps : List Pg) (i : Nat) : Nat := ((ps.take i).flatMap (·.notes)).length

theorem atB_succ {ps : List Pg} {i : Nat} (hi : i < ps.length) : atB ps (i + 1) = atB ps i + ps[i].body.length := by
  unfold atB
  rw [flat_take _ _ _ hi, List.length_append]
theorem atN_succ {ps : List Pg} {i : Nat} (hi : i < ps.length) : atN ps (i + 1) = atN ps i + ps[i].notes.length := by
  unfold atN
  rw [flat_take _ _ _ hi, List.length_append]

theorem sumR_take_le (notes : List (List Line)) (body : List Line) (k : Nat) : sumR notes (body.take k) ≤ sumR notes body := by
  have h : sumR notes body = sumR notes (body.take k) + sumR notes (body.drop k) := by
    rw [← notesOf_len, ← notesOf_len, ← notesOf_len, ← List.length_append, ← notesOf_append, List.take_append_drop]
  omega

/-- What is left at a page. -/
theorem set_at (h : Int) (hh : 4 ≤ h) (notes : List (List Line)) (f : Nat) (body q : List Line) (hf : body.length + q.length + sumR notes body < f) : ∀ (i : Nat), i ≤ (setM h notes f body q).length →
    ∃ f', (setM h notes f body q).drop i = setM h notes f' (body.drop (atB (setM h notes f body q) i)) ((q ++ notesOf notes (body.take (atB (setM h notes f body q) i))).drop (atN (setM h notes f body q) i)) ∧
      (body.drop (atB (setM h notes f body q) i)).length + ((q ++ notesOf notes (body.take (atB (setM h notes f body q) i))).drop (atN (setM h notes f body q) i)).length + sumR notes (body.drop (atB (setM h notes f body q) i)) < f' ∧
      atB (setM h notes f body q) i ≤ body.length ∧ atN (setM h notes f body q) i ≤ q.length + sumR notes (body.take (atB (setM h notes f body q) i))
  | 0, _ => ⟨f, by simp [atB, atN, notesOf, refs], by simp [atB, atN, notesOf, refs]; simpa [notesOf, refs] using hf, by simp [atB], by simp [atN]⟩
  | i + 1, hi => by
    obtain ⟨f', e1, e2, e3, e4⟩ := set_at h hh notes f body q hf i (by omega)
    generalize hps : setM h notes f body q = ps at *
    generalize hA : atB ps i = A at *
    generalize hS : atN ps i = S at *
    have hlt : i < ps.length := by omega
    have hne : 0 < (body.drop A).length + ((q ++ notesOf notes (body.take A)).drop S).length := by
      rcases Nat.eq_zero_or_pos ((body.drop A).length + ((q ++ notesOf notes (body.take A)).drop S).length) with hz | hz
      · rw [List.eq_nil_of_length_eq_zero (l := body.drop A) (by omega), List.eq_nil_of_length_eq_zero (l := (q ++ notesOf notes (body.take A)).drop S) (by omega), set_nil] at e1
        have := congrArg List.length e1
        simp at this
        omega
      · exact hz
    obtain ⟨f'', rfl⟩ : ∃ f'', f' = f'' + 1 := ⟨f' - 1, by omega⟩
    obtain ⟨k, m, q', s1, s2, s3, s4, s5, s6, s7, _, _⟩ := set_step h hh notes f'' (body.drop A) ((q ++ notesOf notes (body.take A)).drop S) hne
    rw [s7, List.drop_eq_getElem_cons hlt] at e1
    injection e1 with e5 e6
    have hd1 : (body.drop A).length = body.length - A := List.length_drop
    have hk : ps[i].body.length = k := by rw [e5]; simp only [List.length_take]; omega
    have hm : ps[i].notes.length = m := by rw [e5]; simp only [List.length_take]; omega
    have hA' : atB ps (i + 1) = A + k := by rw [atB_succ hlt, hA, hk]
    have hS' : atN ps (i + 1) = S + m := by rw [atN_succ hlt, hS, hm]
    rw [hA', hS']
    have htk : body.take (A + k) = body.take A ++ (body.drop A).take k := List.take_add
    have hql : (q ++ notesOf notes (body.take A)).length = q.length + sumR notes (body.take A) := by rw [List.length_append, notesOf_len]
    have hq' : q'.drop m = (q ++ notesOf notes (body.take (A + k))).drop (S + m) := by
      have hX : ∀ (X Y : List Line), S ≤ X.length → (X ++ Y).drop S = X.drop S ++ Y := fun X Y h => List.drop_append_of_le_length h
      rw [s1, htk, notesOf_append, ← List.append_assoc, ← List.drop_drop, hX (q ++ notesOf notes (body.take A)) _ (by omega)]
    have hsum : sumR notes (body.take (A + k)) = sumR notes (body.take A) + sumR notes ((body.drop A).take k) := by
      rw [htk, ← notesOf_len, ← notesOf_len, ← notesOf_len, ← List.length_append, ← notesOf_append]
    have hsum2 : sumR notes (body.drop A) = sumR notes ((body.drop A).take k) + sumR notes (body.drop (A + k)) := by
      rw [← List.drop_drop, ← notesOf_len, ← notesOf_len, ← notesOf_len, ← List.length_append, ← notesOf_append, List.take_append_drop]
    have hq'l : q'.length = ((q ++ notesOf notes (body.take A)).drop S).length + sumR notes ((body.drop A).take k) := by rw [s1, List.length_append, notesOf_len]
    have hd2 : ((q ++ notesOf notes (body.take A)).drop S).length = q.length + sumR notes (body.take A) - S := by rw [List.length_drop, hql]
    have hd3 : (q'.drop m).length = q'.length - m := List.length_drop
    have hd4 : (body.drop (A + k)).length = body.length - (A + k) := List.length_drop
    refine ⟨f'', ?_, ?_, by omega, by omega⟩
    · rw [e6, List.drop_drop, hq']
    · rw [← hq']
      omega

/-- What is known of a page that isn't the last one. -/
theorem greedy_at (h : Int) (hh : 4 ≤ h) (notes : List (List Line)) (body : List Line) (ps : List Pg) (hps0 : setAll h body notes = ps) (i : Nat) (hi : i + 1 < ps.length) :
    atB ps (i + 1) ≤ body.length ∧
    ((atN ps (i + 1) < sumR notes (body.take (atB ps (i + 1)))) → h - usedM ps[i] = 0) ∧
    (¬ (atN ps (i + 1) < sumR notes (body.take (atB ps (i + 1)))) → ∃ x, body[atB ps (i + 1)]? = some x ∧
      h - usedM ps[i] < (if x.notes = [] then 1 else 3 - min (ps[i].notes.length : Int) 1)) := by
  have hps : setM h notes (body.length + sumR notes body + 1) body [] = ps := hps0
  have hf : body.length + ([] : List Line).length + sumR notes body < body.length + sumR notes body + 1 := by simp
  obtain ⟨f1, a1, a2, a3, a4⟩ := set_at h hh notes _ body [] hf i (by rw [hps]; omega)
  obtain ⟨f2, b1, b2, b3, b4⟩ := set_at h hh notes _ body [] hf (i + 1) (by rw [hps]; omega)
  rw [hps] at a1 a2 a3 a4 b1 b2 b3 b4
  clear hps hps0
  have hlt : i < ps.length := by omega
  have hB := atB_succ hlt
  have hN := atN_succ hlt
  refine ⟨b3, ?_⟩
  rw [List.drop_eq_getElem_cons hlt] at a1
  generalize atB ps i = A at *
  generalize atN ps i = S at *
  obtain ⟨f1', rfl⟩ : ∃ f', f1 = f' + 1 := ⟨f1 - 1, by omega⟩
  have hne : 0 < (body.drop A).length + (([] ++ notesOf notes (body.take A)).drop S).length := by
    rcases Nat.eq_zero_or_pos ((body.drop A).length + (([] ++ notesOf notes (body.take A)).drop S).length) with hz | hz
    · have z1 : body.drop A = [] := List.eq_nil_of_length_eq_zero (by omega)
      have z2 : ([] ++ notesOf notes (body.take A)).drop S = [] := List.eq_nil_of_length_eq_zero (by omega)
      rw [z1, z2, set_nil] at a1
      cases a1
    · exact hz
  generalize hbd : body.drop A = bd at *
  generalize hqq : ([] ++ notesOf notes (body.take A)).drop S = qq at *
  obtain ⟨k, n', s', q', e, e1, e2, e3, e4, e5, e6, e7, e8⟩ := fill_inv h notes bd 0 qq (min qq.length (h - 1)) (by omega) (by omega) (by omega) (by omega) (by omega)
  have hfull := fill_full h notes bd 0 qq (min qq.length (h - 1)) (by omega) (by omega) (by omega) (by omega) (by omega) n' q' s' e
  have hne' : (bd.isEmpty && qq.isEmpty) = false := by
    cases bd with
    | nil => cases qq with
      | nil => simp at hne
      | cons => rfl
    | cons => rfl
  rw [setM, hne', e] at a1
  simp only [Bool.false_eq_true, if_false] at a1
  rw [show n'.toNat = k by omega] at a1
  injection a1 with c1 c2
  have hk : ps[i].body.length = k := by rw [c1]; simp only [List.length_take]; omega
  have hm : (ps[i].notes.length : Int) = s' := by rw [c1]; simp only [List.length_take]; omega
  have hbl : bd.length = body.length - A := by rw [← hbd]; exact List.length_drop
  have hql : qq.length = sumR notes (body.take A) - S := by rw [← hqq, List.nil_append, List.length_drop, notesOf_len]
  have htk : body.take (A + k) = body.take A ++ bd.take k := by rw [← hbd]; exact List.take_add
  have hsum : sumR notes (body.take (A + k)) = sumR notes (body.take A) + sumR notes (bd.take k) := by
    rw [htk, ← notesOf_len, ← notesOf_len, ← notesOf_len, ← List.length_append, ← notesOf_append]
  have hq'l : q'.length = qq.length + sumR notes (bd.take k) := by rw [e3, List.length_append, notesOf_len]
  have hused : usedM ps[i] = n' + s' + min s' 1 := by
    unfold usedM
    omega
  simp only [List.length_nil, Nat.zero_add] at a4 b4
  rw [hB, hk]
  rw [hB, hk] at b4
  refine ⟨fun hd => ?_, fun hd => ?_⟩
  · rw [hused, hfull (by omega)]
    omega
  · have hs : s' = q'.length := by omega
    have hkl : k < bd.length := by
      rcases Nat.lt_or_ge k bd.length with hl | hl
      · exact hl
      · have hz : bd.drop k = [] := List.drop_eq_nil_of_le hl
        have hz2 : q'.drop s'.toNat = [] := List.drop_eq_nil_of_le (by omega)
        rw [hz, hz2, set_nil] at c2
        have := congrArg List.length c2
        simp at this
        omega
    obtain ⟨x, hx, hfit⟩ := e8 hkl
    refine ⟨x, ?_, ?_⟩
    · rw [← hbd, List.getElem?_drop] at hx
      exact hx
    · rw [hused, hm]
      unfold fitsB at hfit
      split
      · rename_i hxn
        rw [if_pos hxn] at hfit
        have := of_decide_eq_false hfit
        omega
      · rename_i hxn
        rw [if_neg hxn] at hfit
        rw [decide_eq_true hs, Bool.true_and] at hfit
        have := of_decide_eq_false hfit
        omega

end Go.Proofs.Ytocoinkhbjlbhaa
