/-
  Plain laws of layer 27's model: on which pages the notes stand.
-/
import Derived.Test.YtocoinkhbjlbhaaP27e
namespace Go.Proofs.Ytocoinkhbjlbhaa

/-- Of each line of some sort the number of its page. -/
def wh (f : Pg → Nat) : Int → List Pg → List Int
  | _, [] => []
  | p, x :: r => List.replicate (f x) p ++ wh f (p + 1) r

theorem wh_len (f : Pg → Nat) : ∀ (p : Int) (l : List Pg), (wh f p l).length = (l.map f).sum
  | _, [] => rfl
  | p, x :: r => by rw [wh, List.length_append, List.length_replicate, wh_len f (p + 1) r, List.map_cons, List.sum_cons]

theorem wh_take (f : Pg → Nat) : ∀ (l : List Pg) (p : Int) (i : Nat) (hi : i < l.length), wh f p (l.take (i + 1)) = wh f p (l.take i) ++ List.replicate (f l[i]) (p + i)
  | x :: r, p, 0, _ => by simp [wh]
  | x :: r, p, i + 1, hi => by
    rw [List.take_succ_cons, List.take_succ_cons, wh, wh, wh_take f r (p + 1) i (by simpa using hi), List.append_assoc]
    simp only [List.getElem_cons_succ]
    rw [show p + ((i + 1 : Nat) : Int) = p + 1 + (i : Int) by omega]

theorem len_flat {f : Pg → List Line} : ∀ (l : List Pg), (l.flatMap f).length = (l.map fun x => (f x).length).sum
  | [] => rfl
  | x :: r => by rw [List.flatMap_cons, List.length_append, len_flat r, List.map_cons, List.sum_cons]

theorem sumR_take_succ (notes : List (List Line)) (body : List Line) (j : Nat) (hj : j < body.length) : sumR notes (body.take (j + 1)) = sumR notes (body.take j) + (body[j].notes.flatMap (noteAt notes)).length := by
  unfold sumR refs
  rw [flat_take _ _ _ hj, List.flatMap_append, List.length_append]

theorem sumR_mono (notes : List (List Line)) (body : List Line) : ∀ (i j : Nat), i ≤ j → sumR notes (body.take i) ≤ sumR notes (body.take j) := by
  intro i j h
  have e : body.take i = (body.take j).take i := by rw [List.take_take, Nat.min_eq_left h]
  rw [e]
  exact sumR_take_le notes _ i

/-- The first line of a line's notes is shown as soon as the line is. -/
theorem fill_first (h : Int) (notes : List (List Line)) : ∀ (body : List Line) (n : Int) (q : List Line) (s : Int), 0 ≤ n → 0 ≤ s → s ≤ q.length → n + s + min s 1 ≤ h → (s = 0 → q.length = 0) →
    ∀ (n' s' : Int) (q' : List Line), fillM h notes body n q s = (n', q', s') → ∀ (j : Nat) (hj : j < body.length), (j : Int) < n' - n → 0 < (body[j].notes.flatMap (noteAt notes)).length → (q.length + sumR notes (body.take j) : Int) < s'
  | [], n, q, s, h0, h1, h2, h3, h4, n', s', q', e, j, hj, hlt, hp => by simp at hj
  | x :: r, n, q, s, h0, h1, h2, h3, h4, n', s', q', e, j, hj, hlt, hp => by
    rw [fillM] at e
    split at e
    · rename_i hb
      obtain ⟨f1, f2⟩ := fits_bd hb h1 (by omega)
      have hlen : (q ++ x.notes.flatMap (noteAt notes)).length = q.length + (x.notes.flatMap (noteAt notes)).length := List.length_append
      have hz : x.notes = [] → (x.notes.flatMap (noteAt notes)).length = 0 := fun hx => by rw [hx]; rfl
      have hg := growM_bd h (n + 1) s (q ++ x.notes.flatMap (noteAt notes)).length h1 (by omega) (by omega) (fun a b => by
        rcases f2 with hx | hx
        · have := hz hx
          have := h4 a
          omega
        · omega)
      cases j with
      | zero =>
        simp only [List.getElem_cons_zero] at hp
        obtain ⟨k, n2, s2, q2, e2, _, _, _, e4, _⟩ := fill_inv h notes r (n + 1) _ _ (by omega) (by omega) hg.2.1 hg.2.2.1 (fun a => by have := hg.2.2.2 a; omega)
        rw [e] at e2
        cases e2
        have hs0 : sumR notes (List.take 0 (x :: r)) = 0 := by simp [sumR, refs]
        have hfit := hb
        unfold fitsB at hfit
        rw [if_neg (fun hx => by have := hz hx; omega)] at hfit
        simp only [Bool.and_eq_true, decide_eq_true_eq] at hfit
        have hgrow : s < growM h (n + 1) s (q ++ x.notes.flatMap (noteAt notes)).length := by
          unfold growM
          rw [if_pos (by omega)]
          omega
        omega
      | succ j =>
        simp only [List.getElem_cons_succ] at hp
        have hj' : j < r.length := by simpa using hj
        have := fill_first h notes r (n + 1) _ _ (by omega) (by omega) hg.2.1 hg.2.2.1 (fun a => by have := hg.2.2.2 a; omega) n' s' q' e j hj' (by omega) hp
        have e3 : sumR notes (List.take (j + 1) (x :: r)) = (x.notes.flatMap (noteAt notes)).length + sumR notes (r.take j) := by
          rw [List.take_succ_cons]
          unfold sumR refs
          rw [List.flatMap_cons, List.flatMap_append, List.length_append]
        omega
    · cases e
      omega

/-- 'next': an equal number, or the next one. -/
def Nx (Y : List Int) (t : Nat) : Prop := ∃ a b, Y[t]? = some a ∧ Y[t + 1]? = some b ∧ (b = a ∨ b = a + 1)

theorem notes_law (h : Int) (hh : 4 ≤ h) (notes : List (List Line)) : ∀ (f : Nat) (body q : List Line) (p : Int), body.length + q.length + sumR notes body < f →
    (0 < q.length → (wh (·.notes.length) p (setM h notes f body q))[0]? = some p) ∧
    (∀ t, t + 1 < q.length → Nx (wh (·.notes.length) p (setM h notes f body q)) t) ∧
    ∀ (j : Nat) (hj : j < body.length), (0 < (body[j].notes.flatMap (noteAt notes)).length → ∃ a, (wh (·.body.length) p (setM h notes f body q))[j]? = some a ∧ (wh (·.notes.length) p (setM h notes f body q))[q.length + sumR notes (body.take j)]? = some a) ∧
      ∀ t, q.length + sumR notes (body.take j) ≤ t → t + 1 < q.length + sumR notes (body.take (j + 1)) → Nx (wh (·.notes.length) p (setM h notes f body q)) t
  | 0, _, _, _, hf => by omega
  | f + 1, body, q, p, hf => by
    rcases Nat.eq_zero_or_pos (body.length + q.length) with hz | hne
    · have h1 : body = [] := List.eq_nil_of_length_eq_zero (by omega)
      have h2 : q = [] := List.eq_nil_of_length_eq_zero (by omega)
      subst h1 h2
      exact ⟨fun h => by simp at h, fun t h => by simp at h, fun j hj => by simp at hj⟩
    · obtain ⟨k, m, q', e1, e2, e3, e4, e5, e6, e7, e8, _⟩ := set_step h hh notes f body q hne
      have hfirst : ∀ (j : Nat) (hj : j < body.length), j < k → 0 < (body[j].notes.flatMap (noteAt notes)).length → q.length + sumR notes (body.take j) < m := by
        intro j hj hjk hp
        obtain ⟨k0, n', s', q2, c, c1, c2, c3, c4, c5, c6, c7, c8⟩ := fill_inv h notes body 0 q (min q.length (h - 1)) (by omega) (by omega) (by omega) (by omega) (by omega)
        have hne' : (body.isEmpty && q.isEmpty) = false := by
          cases body with
          | nil => simp at hj
          | cons => rfl
        rw [setM, hne', c] at e7
        simp only [Bool.false_eq_true, if_false, List.cons.injEq, Pg.mk.injEq, true_and] at e7
        obtain ⟨⟨d1, d2⟩, _⟩ := e7
        have hk : k0 = k := by
          have := congrArg List.length d1
          simp only [List.length_take] at this
          omega
        have hq2 : q2 = q' := by rw [c3, e1, hk]
        have hs : s'.toNat = m := by
          have := congrArg List.length d2
          rw [hq2] at this
          simp only [List.length_take] at this
          rw [hq2] at c5
          omega
        have := fill_first h notes body 0 q (min q.length (h - 1)) (by omega) (by omega) (by omega) (by omega) (by omega) n' s' q2 c j hj (by omega) hp
        omega
      have hq' : q'.length = q.length + sumR notes (body.take k) := by rw [e1, List.length_append, notesOf_len]
      have hb : body = body.take k ++ body.drop k := (List.take_append_drop k body).symm
      have hsum : sumR notes body = sumR notes (body.take k) + sumR notes (body.drop k) := by
        rw [← notesOf_len, ← notesOf_len, ← notesOf_len, ← List.length_append, ← notesOf_append, ← hb]
      have hd1 : (body.drop k).length = body.length - k := List.length_drop
      have hd2 : (q'.drop m).length = q'.length - m := List.length_drop
      obtain ⟨i1, i2, i3⟩ := notes_law h hh notes f (body.drop k) (q'.drop m) (p + 1) (by omega)
      have hsk : ∀ j, sumR notes (body.take (k + j)) = sumR notes (body.take k) + sumR notes ((body.drop k).take j) := fun j => by
        rw [List.take_add, ← notesOf_len, ← notesOf_len, ← notesOf_len, notesOf_append, List.length_append]
      have hX : wh (·.body.length) p (setM h notes (f + 1) body q) = List.replicate k p ++ wh (·.body.length) (p + 1) (setM h notes f (body.drop k) (q'.drop m)) := by
        rw [e7, wh]
        simp only [List.length_take]
        rw [Nat.min_eq_left e2]
      have hY : wh (·.notes.length) p (setM h notes (f + 1) body q) = List.replicate m p ++ wh (·.notes.length) (p + 1) (setM h notes f (body.drop k) (q'.drop m)) := by
        rw [e7, wh]
        simp only [List.length_take]
        rw [Nat.min_eq_left e3]
      rw [hX, hY]
      generalize wh (·.body.length) (p + 1) (setM h notes f (body.drop k) (q'.drop m)) = X at *
      generalize wh (·.notes.length) (p + 1) (setM h notes f (body.drop k) (q'.drop m)) = Y at *
      have glo : ∀ t, t < m → (List.replicate m p ++ Y)[t]? = some p := fun t ht => by
        rw [List.getElem?_append_left (by simpa using ht)]
        simp [ht]
      have ghi : ∀ t, m ≤ t → (List.replicate m p ++ Y)[t]? = Y[t - m]? := fun t ht => by
        rw [List.getElem?_append_right (by simpa using ht)]
        simp
      -- a step of the lines of notes: on this page, over its end, or behind it
      have step : ∀ t, t + 1 < q'.length → (m ≤ t → Nx Y (t - m)) → Nx (List.replicate m p ++ Y) t := fun t ht hr => by
        rcases Nat.lt_trichotomy (t + 1) m with hc | hc | hc
        · exact ⟨p, p, glo t (by omega), glo (t + 1) hc, .inl rfl⟩
        · refine ⟨p, p + 1, glo t (by omega), ?_, .inr rfl⟩
          rw [ghi _ (by omega), show t + 1 - m = 0 by omega]
          exact i1 (by omega)
        · obtain ⟨a, b, h1, h2, h3⟩ := hr (by omega)
          exact ⟨a, b, by rw [ghi t (by omega)]; exact h1, by rw [ghi _ (by omega), show t + 1 - m = t - m + 1 by omega]; exact h2, h3⟩
      refine ⟨fun hq => glo 0 (by omega), fun t ht => step t (by omega) (fun hm => i2 _ (by omega)), fun j hj => ⟨fun hp => ?_, fun t h1 h2 => ?_⟩⟩
      · rcases Nat.lt_or_ge j k with hjk | hjk
        · refine ⟨p, ?_, glo _ (hfirst j hj hjk hp)⟩
          rw [List.getElem?_append_left (by simpa using hjk)]
          simp [hjk]
        · obtain ⟨j', rfl⟩ : ∃ j', j = k + j' := ⟨j - k, by omega⟩
          have hj' : j' < (body.drop k).length := by omega
          have hg : (body.drop k)[j'] = body[k + j'] := by simp
          obtain ⟨a, a1, a2⟩ := (i3 j' hj').1 (by rw [hg]; exact hp)
          refine ⟨a, ?_, ?_⟩
          · rw [List.getElem?_append_right (by simp), List.length_replicate, Nat.add_sub_cancel_left]
            exact a1
          · rw [hsk, ghi _ (by omega), ← a2]
            congr 1
            omega
      · rcases Nat.lt_or_ge j k with hjk | hjk
        · have := sumR_mono notes body (j + 1) k hjk
          exact step t (by omega) (fun hm => i2 _ (by omega))
        · obtain ⟨j', rfl⟩ : ∃ j', j = k + j' := ⟨j - k, by omega⟩
          have hj' : j' < (body.drop k).length := by omega
          rw [hsk] at h1
          rw [Nat.add_assoc, hsk] at h2
          have := (i3 j' hj').2 (t - m) (by omega) (by omega)
          obtain ⟨a, b, c1, c2, c3⟩ := this
          exact ⟨a, b, by rw [ghi t (by omega)]; exact c1, by rw [ghi _ (by omega), show t + 1 - m = t - m + 1 by omega]; exact c2, c3⟩

end Go.Proofs.Ytocoinkhbjlbhaa
