/-
  Layer 26 in plain lists: what the laws say.
-/
import Derived.Test.YtocoinkhbjlbhaaM26b
namespace Go.Proofs.Ytocoinkhbjlbhaa

/-- The least cost. -/
def best26 (w : List Int) (m : Int) : Int := (at26 (dpl m w 0) 0).1

theorem chk_of {w : List Int} {m : Int} (hl : w.length ≤ 500) (hm : 500 ≤ m ∧ m ≤ 2000) (hw : ∀ x ∈ w, 1 ≤ x ∧ x ≤ 480) : chk26 w m = 0 := by
  unfold chk26
  rw [if_neg (by omega), if_neg (by omega), if_pos (okW_of hw)]

theorem costM_of {w ends : List Int} {m c : Int} (h0 : chk26 w m = 0) (ho : ordE w.length 0 ends = true) (hc : costG w m 0 ends = some c) : costM w m ends = (c, 0) := by
  unfold costM
  rw [if_neg (by omega), if_pos ho, hc]

theorem costM_ok {w ends : List Int} {m : Int} (h0 : chk26 w m = 0) (h : (costM w m ends).2 = 0) : ordE w.length 0 ends = true ∧ costG w m 0 ends = some (costM w m ends).1 := by
  unfold costM at h ⊢
  rw [if_neg (by omega)] at h ⊢
  split at h
  · rename_i ho
    rw [if_pos ho]
    refine ⟨ho, ?_⟩
    split at h
    · rename_i c hc
      rw [hc]
    · cases h
  · cases h

theorem best_nonneg {w : List Int} {m : Int} (hm : 500 ≤ m) (hw : ∀ x ∈ w, 1 ≤ x ∧ x ≤ 480) : 0 ≤ best26 w m := by
  unfold best26 at26
  have h := dpl_len m w 0
  rw [List.getElem?_eq_getElem (by omega), Option.getD_some]
  exact dpl_nonneg m hm w 0 hw _ (List.getElem_mem _)

theorem walk0 (D : List (Int × Int)) (n : Int) (f : Nat) : walkE D n f 0 = walkE D n f ((0 : Nat) : Int) := rfl

theorem cost_ends {w : List Int} {m : Int} (hl : w.length ≤ 500) (hm : 500 ≤ m ∧ m ≤ 2000) (hw : ∀ x ∈ w, 1 ≤ x ∧ x ≤ 480) : costM w m (endsM w m) = (best26 w m, 0) := by
  have h0 := chk_of hl hm hw
  obtain ⟨h1, h2⟩ := walk_cost m hm.1 hw (w.length + 1) 0 (Nat.zero_le _) (by omega)
  rcases Nat.eq_zero_or_pos w.length with h | h
  · have : w = [] := List.eq_nil_of_length_eq_zero h
    subst this
    exact costM_of h0 h1 rfl
  · exact costM_of h0 h1 (h2 h)

theorem opt {w e : List Int} {m : Int} (hl : w.length ≤ 500) (hm : 500 ≤ m ∧ m ≤ 2000) (hw : ∀ x ∈ w, 1 ≤ x ∧ x ≤ 480) (h : (costM w m e).2 = 0) :
    best26 w m ≤ (costM w m e).1 ∧ ((costM w m e).1 = best26 w m → LexOk e (endsM w m)) := by
  obtain ⟨h1, h2⟩ := costM_ok (chk_of hl hm hw) h
  rcases Nat.eq_zero_or_pos w.length with h3 | h3
  · have : w = [] := List.eq_nil_of_length_eq_zero h3
    subst this
    cases e with
    | nil =>
      have e1 : some (0 : Int) = some (costM [] m []).1 := h2
      have e2 := Option.some.inj e1
      exact ⟨by rw [← e2]; exact Int.le_refl _, fun _ => by
        unfold LexOk
        trivial⟩
    | cons x r =>
      simp only [ordE, Bool.and_eq_true, decide_eq_true_eq] at h1
      have := (ordE_le h1.2).1
      simp at this
      omega
  · exact best_le m hm.1 hw e 0 (w.length + 1) _ h3 (by omega) h1 h2

/-! ### Behind the first line -/

theorem best_uniq {m : Int} {u : List Int} {T T' : List (Int × Int)} {i j : Int} {p p' : Int × Int} (h : Best m u T i p) (h' : Best m u T' j p') (hT : ∀ k : Nat, ((T[k]?).getD (0, 0)).1 = ((T'[k]?).getD (0, 0)).1) : p.1 = p'.1 ∧ p.2 - i = p'.2 - j := by
  have a1 := h.lo
  have a2 := h.hi
  have a3 := h.fit
  have a4 := h.eq
  have b1 := h'.lo
  have b2 := h'.hi
  have b3 := h'.fit
  have b4 := h'.eq
  have c := h.le (p'.2 - j).toNat (by omega) (by omega) b3
  have d := h'.le (p.2 - i).toNat (by omega) (by omega) a3
  rw [hT] at c a4
  have e1 : ((p'.2 - j).toNat = u.length) ↔ (p'.2 = j + u.length) := by omega
  have e2 : ((p.2 - i).toNat = u.length) ↔ (p.2 = i + u.length) := by omega
  simp only [e1] at c
  simp only [e2] at d
  rw [← b4] at c
  rw [← a4] at d
  have e : p.1 = p'.1 := by omega
  refine ⟨e, ?_⟩
  have := c.2 e.symm
  have := d.2 e
  omega

theorem at_cons (p : Int × Int) (D : List (Int × Int)) (k : Nat) : at26 (p :: D) (k + 1) = at26 D k := by simp [at26]

theorem dpl_shift (m : Int) (hm : 500 ≤ m) : ∀ (u : List Int) (i j : Int), (∀ x ∈ u, 1 ≤ x ∧ x ≤ 480) → ∀ k, (at26 (dpl m u i) k).1 = (at26 (dpl m u j) k).1 ∧ (k < u.length → (at26 (dpl m u i) k).2 - i = (at26 (dpl m u j) k).2 - j)
  | [], i, j, _, k => ⟨rfl, fun h => by simp at h⟩
  | x :: r, i, j, hu, 0 => by
    have hr := dpl_shift m hm r (i + 1) (j + 1) (fun y hy => hu y (by simp [hy]))
    have h1 := dpl_best m hm (x :: r) i (by simp) hu
    have h2 := dpl_best m hm (x :: r) j (by simp) hu
    obtain ⟨q1, q2⟩ := best_uniq h1 h2 (fun k => (hr k).1)
    exact ⟨q1, fun _ => q2⟩
  | x :: r, i, j, hu, k + 1 => by
    have hr := dpl_shift m hm r (i + 1) (j + 1) (fun y hy => hu y (by simp [hy])) k
    rw [dpl, dpl, at_cons, at_cons]
    refine ⟨hr.1, fun h => ?_⟩
    have := hr.2 (by simpa using h)
    omega

theorem walk_fuel (m : Int) (hm : 500 ≤ m) {w : List Int} (hw : ∀ x ∈ w, 1 ≤ x ∧ x ≤ 480) : ∀ (f g a : Nat), w.length < a + f → w.length < a + g → walkE (dpl m w 0) w.length f a = walkE (dpl m w 0) w.length g a
  | 0, g, a, hf, hg => by
    cases g with
    | zero => rfl
    | succ g => rw [walkE, walkE, if_neg (by omega)]
  | f + 1, 0, a, hf, hg => by rw [walkE, walkE, if_neg (by omega)]
  | f + 1, g + 1, a, hf, hg => by
    rcases Nat.lt_or_ge a w.length with h | h
    · have hB := (at_best m hm hw a h).lo
      rw [walkE_cons (by omega), walkE_cons (by omega)]
      obtain ⟨b, hb⟩ : ∃ b : Nat, (at26 (dpl m w 0) a).2 = b := ⟨_, (Int.toNat_of_nonneg (by omega)).symm⟩
      rw [hb, walk_fuel m hm hw f g b (by omega) (by omega)]
    · rw [walkE, walkE, if_neg (by omega), if_neg (by omega)]

theorem walk_drop (m : Int) (hm : 500 ≤ m) {w : List Int} (hw : ∀ x ∈ w, 1 ≤ x ∧ x ≤ 480) (k : Nat) (hk : k ≤ w.length) : ∀ (f a : Nat),
    walkE (dpl m w 0) w.length f ((a + k : Nat) : Int) = (walkE (dpl m (w.drop k) 0) (w.drop k).length f a).map (· + (k : Int))
  | 0, a => rfl
  | f + 1, a => by
    have hl : (w.drop k).length = w.length - k := List.length_drop
    have hwd : ∀ x ∈ w.drop k, 1 ≤ x ∧ x ≤ 480 := fun x hx => hw x (List.mem_of_mem_drop hx)
    rcases Nat.lt_or_ge a (w.drop k).length with h | h
    · rw [walkE_cons (by omega), walkE_cons (by omega)]
      have h1 := at_drop m w k a hk
      have h2 := (dpl_shift m hm (w.drop k) k 0 hwd a).2 h
      have hB := (at_best m hm hwd a h).lo
      rw [← h1, Nat.add_comm k a] at h2
      obtain ⟨b, hb⟩ : ∃ b : Nat, (at26 (dpl m (w.drop k) 0) a).2 = b := ⟨_, (Int.toNat_of_nonneg (by omega)).symm⟩
      have h3 : (at26 (dpl m w 0) (a + k)).2 = ((b + k : Nat) : Int) := by omega
      rw [hb, h3, walk_drop m hm hw k hk f b, List.map_cons]
      simp
    · rw [walkE, walkE, if_neg (by omega), if_neg (by omega)]
      rfl

theorem ends_nil {m : Int} : endsM [] m = [] := rfl

/-- The first end; what is behind it. -/
theorem ends_rest {w : List Int} {m : Int} (hm : 500 ≤ m) (hw : ∀ x ∈ w, 1 ≤ x ∧ x ≤ 480) (hne : 0 < w.length) : ∃ k : Nat, 1 ≤ k ∧ k ≤ w.length ∧ endsM w m = (k : Int) :: (endsM (w.drop k) m).map (· + (k : Int)) := by
  have hB := at_best m hm hw 0 hne
  have h1 := hB.lo
  have h2 := hB.hi
  rw [List.drop_zero] at h2
  obtain ⟨k, hk⟩ : ∃ k : Nat, (at26 (dpl m w 0) 0).2 = k := ⟨_, (Int.toNat_of_nonneg (by omega)).symm⟩
  refine ⟨k, by omega, by omega, ?_⟩
  unfold endsM
  rw [walk0, walkE_cons (by omega), hk]
  congr 1
  have e := walk_drop m hm hw k (by omega) w.length 0
  rw [Nat.zero_add] at e
  rw [e]
  congr 1
  have hwd : ∀ x ∈ w.drop k, 1 ≤ x ∧ x ≤ 480 := fun x hx => hw x (List.mem_of_mem_drop hx)
  exact walk_fuel m hm hwd w.length _ 0 (by rw [List.length_drop]; omega) (by omega)

/-- Words that fit on one line have one line. -/
theorem ends_one {w : List Int} {m : Int} (hl : w.length ≤ 500) (hm : 500 ≤ m ∧ m ≤ 2000) (hw : ∀ x ∈ w, 1 ≤ x ∧ x ≤ 480) (hne : 0 < w.length) (h : (costM w m [(w.length : Int)]).2 = 0) : (endsM w m).length = 1 := by
  obtain ⟨h1, h2⟩ := opt hl hm hw h
  obtain ⟨h3, h4⟩ := costM_ok (chk_of hl hm hw) h
  have hb := best_nonneg hm.1 hw
  obtain ⟨k, k1, k2, k3⟩ := ends_rest hm.1 hw hne
  have hc : (costM w m [(w.length : Int)]).1 = 0 := by
    rw [costG] at h4
    split at h4
    · cases h4
    · simpa using h4.symm
  have hL := h2 (by omega)
  rw [k3] at hL
  have hk : k = w.length := by
    simp only [LexOk] at hL
    omega
  rw [k3, hk, List.drop_length, ends_nil]
  rfl

end Go.Proofs.Ytocoinkhbjlbhaa
