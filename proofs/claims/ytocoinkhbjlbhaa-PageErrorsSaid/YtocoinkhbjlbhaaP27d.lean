/-
  Plain laws of layer 27's model: the pages of the first lines are pages of the whole, but for the last one.
-/
import Derived.Test.YtocoinkhbjlbhaaP27c
namespace Go.Proofs.Ytocoinkhbjlbhaa

/-- If a page of the first k lines leaves something, the same page stands in the whole. -/
theorem fill_pre (h : Int) (notes : List (List Line)) : ∀ (body : List Line) (k : Nat) (n : Int) (q : List Line) (s : Int), 0 ≤ s → s ≤ q.length → (s = 0 → q.length = 0) → n + s + min s 1 ≤ h → (s < q.length → n + s + min s 1 = h) →
    ((fillM h notes (body.take k) n q s).1 - n < (body.take k).length ∨ (fillM h notes (body.take k) n q s).2.2 < ((fillM h notes (body.take k) n q s).2.1.length : Int)) →
    fillM h notes body n q s = fillM h notes (body.take k) n q s
  | [], k, n, q, s, _, _, _, _, _, _ => by rw [List.take_nil]
  | x :: r, 0, n, q, s, h1, h2, h4, h3, hf, hl => by
    simp only [List.take_zero, fillM, List.length_nil, Int.sub_self] at hl
    have hlt : s < q.length := by
      rcases hl with hl | hl
      · simp at hl
      · exact hl
    have hfull := hf hlt
    rw [List.take_zero, fillM, fillM, if_neg]
    intro hb
    obtain ⟨f1, f2⟩ := fits_bd hb h1 (by omega)
    omega
  | x :: r, k + 1, n, q, s, h1, h2, h4, h3, hf, hl => by
    rw [List.take_succ_cons, fillM] at hl ⊢
    rw [fillM]
    split
    · rename_i hb
      rw [if_pos hb] at hl
      obtain ⟨f1, f2⟩ := fits_bd hb h1 (by omega)
      have hlen : (q ++ x.notes.flatMap (noteAt notes)).length = q.length + (x.notes.flatMap (noteAt notes)).length := List.length_append
      have hz : x.notes = [] → (x.notes.flatMap (noteAt notes)).length = 0 := fun hx => by rw [hx]; rfl
      have hg := growM_bd h (n + 1) s (q ++ x.notes.flatMap (noteAt notes)).length h1 (by omega) (by omega) (fun a b => by
        rcases f2 with hx | hx
        · have := hz hx
          have := h4 a
          omega
        · omega)
      refine fill_pre h notes r k (n + 1) _ _ (by omega) hg.2.1 (fun a => by have := hg.2.2.2 a; omega) hg.2.2.1 (fun hl2 => ?_) ?_
      · have hsq : s = q.length := by
          rcases Int.lt_or_eq_of_le h2 with hl3 | hl3
          · have := hf hl3
            omega
          · exact hl3
        unfold growM at hl2 hg ⊢
        split
        · rename_i hgt
          rw [if_pos hgt] at hl2 hg
          omega
        · rename_i hgt
          rw [if_neg hgt] at hl2
          omega
      · rcases hl with hl | hl
        · left
          simp only [List.length_cons] at hl
          omega
        · exact .inr hl
    · rfl

theorem set_cons (h : Int) (hh : 4 ≤ h) (notes : List (List Line)) (f : Nat) (body q : List Line) (hne : 0 < body.length + q.length) : 1 ≤ (setM h notes (f + 1) body q).length := by
  obtain ⟨k, m, q', _, _, _, _, _, _, e, _⟩ := set_step h hh notes f body q hne
  rw [e]
  simp

theorem set_pre (h : Int) (hh : 4 ≤ h) (notes : List (List Line)) : ∀ (f : Nat) (body q : List Line) (k f2 : Nat), body.length + q.length + sumR notes body < f → (body.take k).length + q.length + sumR notes (body.take k) < f2 →
    (setM h notes f2 (body.take k) q).length ≤ (setM h notes f body q).length ∧ (setM h notes f2 (body.take k) q).dropLast = (setM h notes f body q).take ((setM h notes f2 (body.take k) q).length - 1)
  | 0, _, _, _, _, hf, _ => by omega
  | f + 1, body, q, k, f2, hf, hf2 => by
    obtain ⟨f2, rfl⟩ : ∃ g, f2 = g + 1 := ⟨f2 - 1, by omega⟩
    have hPl : (body.take k).length ≤ body.length := by rw [List.length_take]; omega
    rcases Nat.eq_zero_or_pos ((body.take k).length + q.length) with hz | hne
    · have z1 : body.take k = [] := List.eq_nil_of_length_eq_zero (by omega)
      have z2 : q = [] := List.eq_nil_of_length_eq_zero (by omega)
      subst z2
      rw [z1, set_nil]
      simp
    · have hne2 : 0 < body.length + q.length := by omega
      obtain ⟨k0, n', s', q', e, e1, e2, e3, e4, e5, e6, e7, e8⟩ := fill_inv h notes (body.take k) 0 q (min q.length (h - 1)) (by omega) (by omega) (by omega) (by omega) (by omega)
      have hpos : 0 < k0 + s'.toNat := by
        rcases Nat.eq_zero_or_pos (k0 + s'.toNat) with hz | hz
        · have hk : k0 = 0 := by omega
          have hs : s' = 0 := by omega
          have hq := e7 hs
          subst hk
          have hq0 : q.length = 0 := by rw [e3] at hq; simp [notesOf, refs] at hq; simp [hq]
          obtain ⟨x, hx, hfx⟩ := e8 (by omega)
          rw [show n' = 0 by omega, hs, hq, show ((0 : Nat) : Int) = 0 from rfl, fits_first x hh] at hfx
          cases hfx
        · exact hz
      have hemp : ((body.take k).isEmpty && q.isEmpty) = false := by
        cases hc : (body.take k).isEmpty && q.isEmpty with
        | false => rfl
        | true =>
          rw [Bool.and_eq_true, List.isEmpty_iff, List.isEmpty_iff] at hc
          rw [hc.1, hc.2] at hne
          simp at hne
      have hemp2 : (body.isEmpty && q.isEmpty) = false := by
        cases hc : body.isEmpty && q.isEmpty with
        | false => rfl
        | true =>
          rw [Bool.and_eq_true, List.isEmpty_iff, List.isEmpty_iff] at hc
          rw [hc.1, hc.2] at hne2
          simp at hne2
      have hP : setM h notes (f2 + 1) (body.take k) q = ⟨0, 0, 0, 0, (body.take k).take k0, q'.take s'.toNat⟩ :: setM h notes f2 ((body.take k).drop k0) (q'.drop s'.toNat) := by
        rw [setM, hemp, e]
        simp only [Bool.false_eq_true, if_false]
        rw [show n'.toNat = k0 by omega]
      have d1 : ((body.take k).drop k0).length = (body.take k).length - k0 := List.length_drop
      have d2 : (q'.drop s'.toNat).length = q'.length - s'.toNat := List.length_drop
      have ql : q'.length = q.length + sumR notes ((body.take k).take k0) := by rw [e3, List.length_append, notesOf_len]
      have sm : sumR notes (body.take k) = sumR notes ((body.take k).take k0) + sumR notes ((body.take k).drop k0) := by
        rw [← notesOf_len, ← notesOf_len, ← notesOf_len, ← List.length_append, ← notesOf_append, List.take_append_drop]
      rcases Nat.eq_zero_or_pos (((body.take k).drop k0).length + (q'.drop s'.toNat).length) with hz | hmore
      · have z1 : (body.take k).drop k0 = [] := List.eq_nil_of_length_eq_zero (by omega)
        have z2 : q'.drop s'.toNat = [] := List.eq_nil_of_length_eq_zero (by omega)
        rw [z1, z2, set_nil] at hP
        rw [hP]
        refine ⟨set_cons h hh notes f body q hne2, ?_⟩
        simp
      · have hfp := fill_pre h notes body k 0 q (min q.length (h - 1)) (by omega) (by omega) (by omega) (by omega) (by omega) (by
          rw [e]
          simp only
          omega)
        have hk0 : k0 ≤ k := by rw [List.length_take] at e2; omega
        have t1 : (body.take k).take k0 = body.take k0 := by rw [List.take_take, Nat.min_eq_left hk0]
        have t2 : (body.take k).drop k0 = (body.drop k0).take (k - k0) := List.drop_take
        have hB : setM h notes (f + 1) body q = ⟨0, 0, 0, 0, (body.take k).take k0, q'.take s'.toNat⟩ :: setM h notes f (body.drop k0) (q'.drop s'.toNat) := by
          rw [setM, hemp2, hfp, e]
          simp only [Bool.false_eq_true, if_false]
          rw [show n'.toNat = k0 by omega, t1]
        have sm2 : sumR notes body = sumR notes ((body.take k).take k0) + sumR notes (body.drop k0) := by
          rw [t1, ← notesOf_len, ← notesOf_len, ← notesOf_len, ← List.length_append, ← notesOf_append, List.take_append_drop]
        have d3 : (body.drop k0).length = body.length - k0 := List.length_drop
        rw [t2] at hP d1 sm hmore
        obtain ⟨i1, i2⟩ := set_pre h hh notes f (body.drop k0) (q'.drop s'.toNat) (k - k0) f2 (by omega) (by omega)
        have hnz : 1 ≤ (setM h notes f2 ((body.drop k0).take (k - k0)) (q'.drop s'.toNat)).length := by
          obtain ⟨g, rfl⟩ : ∃ g, f2 = g + 1 := ⟨f2 - 1, by omega⟩
          exact set_cons h hh notes g _ _ (by omega)
        rw [hP, hB]
        generalize setM h notes f2 ((body.drop k0).take (k - k0)) (q'.drop s'.toNat) = A at *
        generalize setM h notes f (body.drop k0) (q'.drop s'.toNat) = B at *
        refine ⟨by simp only [List.length_cons]; omega, ?_⟩
        cases A with
        | nil => simp at hnz
        | cons a A =>
          rw [List.dropLast_cons_cons, i2]
          simp only [List.length_cons, Nat.add_sub_cancel, List.take_succ_cons]

end Go.Proofs.Ytocoinkhbjlbhaa
