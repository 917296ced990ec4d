/-
  Layer 26 in plain lists: the best ends are the best.
-/
import Derived.Test.YtocoinkhbjlbhaaM26
namespace Go.Proofs.Ytocoinkhbjlbhaa

theorem slk_take_succ (m : Int) (u : List Int) (k : Nat) (hk : k < u.length) : slk m (u.take (k + 1)) = slk m (u.take k) - (u[k] + 6) := by
  rw [List.take_succ_eq_append_getElem hk, slk_snoc]

theorem slk_anti (m : Int) {u : List Int} (hu : ∀ x ∈ u, 1 ≤ x ∧ x ≤ 480) (k : Nat) : ∀ d, k + d ≤ u.length → slk m (u.take (k + d)) ≤ slk m (u.take k)
  | 0, _ => Int.le_refl _
  | d + 1, h => by
    have h1 := slk_anti m hu k d (by omega)
    have h2 := slk_take_succ m u (k + d) (by omega)
    have h3 := hu _ (List.getElem_mem (show k + d < u.length by omega))
    rw [← Nat.add_assoc]
    omega

/-- The cost of ending behind k words. -/
def cand (m : Int) (u : List Int) (T : List (Int × Int)) (k : Nat) : Int :=
  if k = u.length then 0 else slk m (u.take k) * slk m (u.take k) + ((T[k - 1]?).getD (0, 0)).1

structure Part (m : Int) (u : List Int) (T : List (Int × Int)) (i : Int) (k : Nat) (c e : Int) : Prop where
  lo : i < e
  hi : e ≤ i + k
  fit : 0 ≤ slk m (u.take (e - i).toNat)
  eq : c = slk m (u.take (e - i).toNat) * slk m (u.take (e - i).toNat) + ((T[(e - i).toNat - 1]?).getD (0, 0)).1
  le : ∀ j : Nat, 0 < j → j ≤ k → c ≤ cand m u T j ∧ (cand m u T j = c → i + j ≤ e)

theorem sq_nonneg (a : Int) : 0 ≤ a * a := by
  rcases Int.le_total 0 a with h | h
  · exact Int.mul_nonneg h h
  · have := Int.mul_nonneg (show 0 ≤ -a by omega) (show 0 ≤ -a by omega)
    rwa [Int.neg_mul_neg] at this

theorem inn_inv (m : Int) (hm : 500 ≤ m) {u : List Int} (hu : ∀ x ∈ u, 1 ≤ x ∧ x ≤ 480) {T : List (Int × Int)} (hT : T.length = u.length) (hT0 : ∀ t ∈ T, 0 ≤ t.1) (i : Int) : ∀ (ws : List Int) (k : Nat) (s c e : Int), ws = u.drop k → ws ≠ [] →
    s = slk m (u.take k) → 0 ≤ s → (k = 0 ∧ c < 0 ∨ 0 < k ∧ 0 ≤ c ∧ Part m u T i k c e) → Best m u T i (inn m ws (T.drop k) (i + k + 1) s c e)
  | [], _, _, _, _, _, hne, _, _, _ => absurd rfl hne
  | x :: r, k, s, c, e, hws, _, hs, hs0, hP => by
    have hk : k < u.length := by
      rcases Nat.lt_or_ge k u.length with h | h
      · exact h
      · rw [List.drop_of_length_le h] at hws; cases hws
    have hx : x = u[k] ∧ r = u.drop (k + 1) := by
      rw [List.drop_eq_getElem_cons hk] at hws
      exact List.cons.inj hws
    obtain ⟨rfl, hr⟩ := hx
    have hTk : T.drop k = T[k] :: T.drop (k + 1) := List.drop_eq_getElem_cons (by omega)
    have hs' := slk_take_succ m u k hk
    have hxr := hu _ (List.getElem_mem hk)
    have hTn := hT0 _ (List.getElem_mem (show k < T.length by omega))
    have hTg : (T[k + 1 - 1]?).getD (0, 0) = T[k] := by simp [show k < T.length by omega]
    rw [hTk, inn]
    split
    · rename_i hneg
      rcases hP with ⟨rfl, _⟩ | ⟨hk0, hc0, hP⟩
      · rw [List.take_zero, slk_nil] at hs
        omega
      · have hP1 := hP.lo
        have hP2 := hP.hi
        refine ⟨hP.lo, by show e ≤ _; omega, hP.fit, by
          show c = _
          rw [if_neg (by show ¬ e = _; omega)]
          exact hP.eq, fun j h1 h2 h3 => ?_⟩
        rcases Nat.lt_or_ge k j with hj | hj
        · have := slk_anti m hu (k + 1) (j - (k + 1)) (by omega)
          rw [show k + 1 + (j - (k + 1)) = j by omega] at this
          omega
        · exact hP.le j h1 hj
    · rename_i hpos
      split
      · rename_i hre
        have hlen : k + 1 = u.length := by
          rw [hre] at hr
          have := congrArg List.length hr
          simp only [List.length_nil, List.length_drop] at this
          omega
        have he : (i + k + 1 - i).toNat = k + 1 := by omega
        refine ⟨by show i < i + k + 1; omega, by show i + k + 1 ≤ _; omega, by show 0 ≤ slk m (u.take (i + k + 1 - i).toNat); rw [he]; omega, by
          show 0 = _
          rw [if_pos (by show i + k + 1 = _; omega)], fun j h1 h2 h3 => ⟨?_, fun _ => by show i + j ≤ i + k + 1; omega⟩⟩
        split
        · exact Int.le_refl _
        · have h4 := sq_nonneg (slk m (u.take j))
          have h5 := hT0 _ (List.getElem_mem (show j - 1 < T.length by omega))
          rw [List.getElem?_eq_getElem (by omega), Option.getD_some]
          show 0 ≤ _
          omega
      · rename_i hre
        have hlen : k + 1 < u.length := by
          rcases Nat.lt_or_ge (k + 1) u.length with h | h
          · exact h
          · exact absurd (hr.trans (List.drop_of_length_le h)) hre
        have hcand : cand m u T (k + 1) = (s - (u[k] + 6)) * (s - (u[k] + 6)) + T[k].1 := by
          unfold cand
          rw [if_neg (by omega), hTg, hs', hs]
        have hsq := sq_nonneg (s - (u[k] + 6))
        have e1 : i + (k : Int) + 1 + 1 = i + ((k + 1 : Nat) : Int) + 1 := by omega
        split
        · rename_i hup
          rw [e1]
          refine inn_inv m hm hu hT hT0 i r (k + 1) _ _ _ hr hre (by rw [hs', hs]) (by omega) (.inr ⟨by omega, by omega, ?_⟩)
          have he : (i + k + 1 - i).toNat = k + 1 := by omega
          refine ⟨by omega, by omega, by rw [he, hs']; omega, by rw [he, hTg, hs', hs], fun j h1 h2 => ?_⟩
          rcases Nat.lt_or_ge k j with hj | hj
          · have : j = k + 1 := by omega
            subst this
            rw [hcand]
            exact ⟨Int.le_refl _, fun _ => by omega⟩
          · rcases hP with ⟨rfl, _⟩ | ⟨hk0, hc0, hP⟩
            · omega
            · have := (hP.le j h1 hj).1
              rcases hup with hup | hup
              · omega
              · exact ⟨by omega, fun _ => by omega⟩
        · rename_i hup
          rw [e1]
          rcases hP with ⟨rfl, hc⟩ | ⟨hk0, hc0, hP⟩
          · exact absurd (.inl hc) hup
          · refine inn_inv m hm hu hT hT0 i r (k + 1) _ _ _ hr hre (by rw [hs', hs]) (by omega) (.inr ⟨by omega, hc0, ?_⟩)
            have hP2 := hP.hi
            refine ⟨hP.lo, by omega, hP.fit, hP.eq, fun j h1 h2 => ?_⟩
            rcases Nat.lt_or_ge k j with hj | hj
            · have : j = k + 1 := by omega
              subst this
              rw [hcand]
              have : ¬ ((s - (u[k] + 6)) * (s - (u[k] + 6)) + T[k].1 ≤ c) := fun hc => hup (.inr hc)
              exact ⟨by omega, fun he => by omega⟩
            · exact hP.le j h1 hj

theorem inn_best (m : Int) (hm : 500 ≤ m) {u : List Int} (hu : ∀ x ∈ u, 1 ≤ x ∧ x ≤ 480) {T : List (Int × Int)} (hT : T.length = u.length) (hT0 : ∀ t ∈ T, 0 ≤ t.1) (i : Int) (hne : u ≠ []) :
    Best m u T i (inn m u T (i + 1) (m + 6) (-1) 0) := by
  have := inn_inv m hm hu hT hT0 i u 0 (m + 6) (-1) 0 rfl hne (by rw [List.take_zero, slk_nil]) (by omega) (.inl ⟨rfl, by omega⟩)
  simpa using this

theorem dpl_nonneg (m : Int) (hm : 500 ≤ m) : ∀ (u : List Int) (i : Int), (∀ x ∈ u, 1 ≤ x ∧ x ≤ 480) → ∀ t ∈ dpl m u i, 0 ≤ t.1
  | [], _, _, t, ht => by simp [dpl] at ht; subst ht; exact Int.le_refl _
  | x :: r, i, hu, t, ht => by
    have ihr := dpl_nonneg m hm r (i + 1) (fun y hy => hu y (by simp [hy]))
    rw [dpl] at ht
    rcases List.mem_cons.1 ht with rfl | ht
    · have hB := inn_best m hm hu (T := dpl m r (i + 1)) (by rw [dpl_len, List.length_cons]) ihr i (by simp)
      rw [hB.eq]
      split
      · exact Int.le_refl _
      · have h1 := sq_nonneg (slk m ((x :: r).take ((inn m (x :: r) (dpl m r (i + 1)) (i + 1) (m + 6) (-1) 0).2 - i).toNat))
        have h2 := hB.lo
        have h3 := hB.hi
        have hl : (dpl m r (i + 1)).length = r.length + 1 := dpl_len m r (i + 1)
        rw [List.length_cons] at h3
        rw [List.getElem?_eq_getElem (by omega), Option.getD_some]
        have := ihr _ (List.getElem_mem (show ((inn m (x :: r) (dpl m r (i + 1)) (i + 1) (m + 6) (-1) 0).2 - i).toNat - 1 < (dpl m r (i + 1)).length by omega))
        omega
    · exact ihr t ht

/-- What stands at a place. -/
def at26 (D : List (Int × Int)) (i : Nat) : Int × Int := (D[i]?).getD (0, 0)

theorem at_drop (m : Int) (w : List Int) (a k : Nat) (ha : a ≤ w.length) : at26 (dpl m w 0) (a + k) = at26 (dpl m (w.drop a) a) k := by
  unfold at26
  have h := dpl_drop m w 0 a ha
  rw [Int.zero_add] at h
  rw [← h, List.getElem?_drop]

theorem dpl_best (m : Int) (hm : 500 ≤ m) : ∀ (u : List Int) (i : Int), u ≠ [] → (∀ x ∈ u, 1 ≤ x ∧ x ≤ 480) → Best m u (dpl m u.tail (i + 1)) i (at26 (dpl m u i) 0)
  | [], _, h, _ => absurd rfl h
  | x :: r, i, h, hu => inn_best m hm hu (T := dpl m r (i + 1)) (by rw [dpl_len, List.length_cons]) (dpl_nonneg m hm r (i + 1) fun y hy => hu y (List.mem_cons_of_mem _ hy)) i h

/-- At each place but the last the best end stands. -/
theorem at_best (m : Int) (hm : 500 ≤ m) {w : List Int} (hw : ∀ x ∈ w, 1 ≤ x ∧ x ≤ 480) (a : Nat) (ha : a < w.length) : Best m (w.drop a) (dpl m (w.drop (a + 1)) (a + 1)) a (at26 (dpl m w 0) a) := by
  have h1 := at_drop m w a 0 (by omega)
  rw [Nat.add_zero] at h1
  have h2 := dpl_best m hm (w.drop a) a (fun h => by have := congrArg List.length h; rw [List.length_drop, List.length_nil] at this; omega) (fun x hx => hw x (List.mem_of_mem_drop hx))
  rw [List.tail_drop] at h2
  rw [h1]
  exact h2

/-- The cost of ending the first line from a at a + k. -/
theorem cand_at (m : Int) (w : List Int) (a k : Nat) (ha : a < w.length) (hk : 0 < k) : ((dpl m (w.drop (a + 1)) (a + 1))[k - 1]?).getD (0, 0) = at26 (dpl m w 0) (a + k) := by
  have := at_drop m w (a + 1) (k - 1) (by omega)
  rw [show a + 1 + (k - 1) = a + k by omega] at this
  rw [this]
  rfl

theorem seg_take (w : List Int) (a k : Nat) : seg w a ((a + k : Nat) : Int) = (w.drop a).take k := by
  unfold seg
  rw [Int.toNat_natCast, Int.toNat_natCast, Nat.add_sub_cancel_left]

theorem ordE_le {n : Int} : ∀ {l : List Int} {a : Int}, ordE n a l = true → a ≤ n ∧ (l ≠ [] → a < n)
  | [], a, h => by simp [ordE] at h; exact ⟨by omega, fun h => absurd rfl h⟩
  | e :: r, a, h => by
    simp only [ordE, Bool.and_eq_true, decide_eq_true_eq] at h
    have := (ordE_le h.2).1
    exact ⟨by omega, fun _ => by omega⟩

/-- At the first place where they differ the former is less. -/
def LexOk : List Int → List Int → Prop
  | x :: r, y :: s => x < y ∨ (x = y ∧ LexOk r s)
  | _, _ => True

theorem walkE_cons {D : List (Int × Int)} {n : Int} {f a : Nat} (h : (a : Int) < n) : walkE D n (f + 1) a = (at26 D a).2 :: walkE D n f (at26 D a).2 := by
  rw [walkE, if_pos h, Int.toNat_natCast]
  rfl

/-- No other way costs less, and of those that cost the same none has later ends. -/
theorem best_le (m : Int) (hm : 500 ≤ m) {w : List Int} (hw : ∀ x ∈ w, 1 ≤ x ∧ x ≤ 480) : ∀ (l : List Int) (a f : Nat) (v : Int), a < w.length → w.length < a + f → ordE w.length a l = true → costG w m a l = some v →
    (at26 (dpl m w 0) a).1 ≤ v ∧ (v = (at26 (dpl m w 0) a).1 → LexOk l (walkE (dpl m w 0) w.length f a))
  | [], a, f, v, ha, hf, ho, hc => by simp [ordE] at ho; omega
  | e :: r, a, f, v, ha, hf, ho, hc => by
    obtain ⟨f, rfl⟩ : ∃ g, f = g + 1 := ⟨f - 1, by omega⟩
    simp only [ordE, Bool.and_eq_true, decide_eq_true_eq] at ho
    obtain ⟨hae, ho⟩ := ho
    have hen := (ordE_le ho).1
    obtain ⟨k, hk⟩ : ∃ k : Nat, e = ((a + k : Nat) : Int) := ⟨(e - a).toNat, by omega⟩
    subst hk
    have hk0 : 0 < k := by omega
    have hB := at_best m hm hw a ha
    have hul : (w.drop a).length = w.length - a := List.length_drop
    rw [costG, seg_take] at hc
    split at hc
    · cases hc
    rename_i hfit
    have hle := hB.le k hk0 (by omega) (by omega)
    rw [cand_at m w a k ha hk0] at hle
    rw [walkE_cons (by omega)]
    split at hc
    · rename_i hr
      cases hc
      subst hr
      have hn : a + k = w.length := by simp [ordE] at ho; omega
      rw [if_pos (by omega)] at hle
      refine ⟨hle.1, fun hv => ?_⟩
      have h2 := hle.2 hv
      have h3 := hB.hi
      exact .inr ⟨by omega, trivial⟩
    · rename_i hr
      have hlt := (ordE_le ho).2 hr
      rw [if_neg (by omega)] at hle
      rw [Option.map_eq_some_iff] at hc
      obtain ⟨v', hv', rfl⟩ := hc
      obtain ⟨i1, i2⟩ := best_le m hm hw r (a + k) f v' (by omega) (by omega) ho hv'
      refine ⟨by omega, fun hv => ?_⟩
      have h2 := hle.2 (by omega)
      rcases Int.lt_or_eq_of_le h2 with h3 | h3
      · exact .inl (by omega)
      · refine .inr ⟨by omega, ?_⟩
        rw [← h3, show (a : Int) + (k : Int) = ((a + k : Nat) : Int) by omega]
        exact i2 (by omega)

/-- The ends are ends, and cost what stands there. -/
theorem walk_cost (m : Int) (hm : 500 ≤ m) {w : List Int} (hw : ∀ x ∈ w, 1 ≤ x ∧ x ≤ 480) : ∀ (f a : Nat), a ≤ w.length → w.length < a + f →
    ordE w.length a (walkE (dpl m w 0) w.length f a) = true ∧ (a < w.length → costG w m a (walkE (dpl m w 0) w.length f a) = some (at26 (dpl m w 0) a).1)
  | 0, a, ha, hf => by omega
  | f + 1, a, ha, hf => by
    rcases Nat.eq_or_lt_of_le ha with h | h
    · subst h
      rw [walkE, if_neg (by omega)]
      exact ⟨by simp [ordE], fun h => by omega⟩
    · have hB := at_best m hm hw a h
      have hul : (w.drop a).length = w.length - a := List.length_drop
      have h1 := hB.lo
      have h2 := hB.hi
      rw [walkE_cons (by omega)]
      obtain ⟨k, hk⟩ : ∃ k : Nat, (at26 (dpl m w 0) a).2 = ((a + k : Nat) : Int) := ⟨((at26 (dpl m w 0) a).2 - a).toNat, by omega⟩
      rw [hk]
      obtain ⟨i1, i2⟩ := walk_cost m hm hw f (a + k) (by omega) (by omega)
      refine ⟨by simp only [ordE, Bool.and_eq_true, decide_eq_true_eq]; exact ⟨by omega, i1⟩, fun _ => ?_⟩
      have h3 := hB.fit
      have h4 := hB.eq
      rw [hk] at h3 h4
      rw [show (((a + k : Nat) : Int) - (a : Int)).toNat = k by omega] at h3 h4
      rw [cand_at m w a k h (by omega)] at h4
      rw [costG, seg_take, if_neg (by omega)]
      split
      · rename_i hnil
        have := (walk_cost m hm hw f (a + k) (by omega) (by omega)).1
        rw [hnil] at this
        simp [ordE] at this
        rw [h4, if_pos (by omega)]
      · rename_i hnil
        have hlt : a + k < w.length := by
          rcases Nat.lt_or_ge (a + k) w.length with h | h
          · exact h
          · refine absurd ?_ hnil
            obtain ⟨f, rfl⟩ : ∃ g, f = g + 1 := ⟨f - 1, by omega⟩
            rw [walkE, if_neg (by omega)]
        rw [i2 hlt, Option.map_some, h4, if_neg (by omega)]

end Go.Proofs.Ytocoinkhbjlbhaa
