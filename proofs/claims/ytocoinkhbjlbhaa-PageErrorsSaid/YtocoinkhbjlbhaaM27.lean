/-
  Layer 27 in plain lists: what the walks show the program to compute.
-/
import Derived.Test.YtocoinkhbjlbhaaBase
namespace Go.Proofs.Ytocoinkhbjlbhaa

/-- The numbers of notes must be next, next + 1, .. and less than k; then what comes next. -/
def ordM : List Int → Int → Int → Option Int
  | [], next, _ => some next
  | n :: r, next, k => if n ≠ next ∨ k ≤ n then none else ordM r (next + 1) k

def refs (body : List Line) : List Int := body.flatMap (·.notes)

def idxM {α : Type} (p : α → Bool) : List α → Int → Int
  | [], _ => -1
  | x :: r, i => if p x then i else idxM p r (i + 1)

theorem idxM_drop {α : Type} (p : α → Bool) (l : List α) (k : Nat) (hk : k < l.length) (i : Int) : idxM p (l.drop k) i = if p l[k] then i else idxM p (l.drop (k + 1)) (i + 1) := by
  rw [List.drop_eq_getElem_cons hk, idxM]

theorem idxM_any {α : Type} (p : α → Bool) : ∀ (l : List α) (i : Int), 0 ≤ i → (0 ≤ idxM p l i ↔ l.any p = true)
  | [], i, _ => by simp [idxM]
  | x :: r, i, h => by
    simp only [idxM, List.any_cons, Bool.or_eq_true]
    split
    · rename_i hp; simp [hp, h]
    · rename_i hp; rw [idxM_any p r (i + 1) (by omega)]; simp [hp]

/-- The error of a body, its notes and a height. -/
def chkM (body : List Line) (notes : List (List Line)) (h : Int) : Int :=
  if h < 4 ∨ 100 < h then 5
  else if notes.any (fun x => decide ((x.length : Int) = 0)) then 1
  else match ordM (refs body) 0 notes.length with
    | none => 12
    | some n => if n < notes.length then 3 else 0

theorem refs_drop (body : List Line) (k : Nat) (hk : k < body.length) : refs (body.drop k) = body[k].notes ++ refs (body.drop (k + 1)) := by
  rw [List.drop_eq_getElem_cons hk, refs, List.flatMap_cons]
  rfl

theorem ordM_drop (l : List Int) (j : Nat) (hj : j < l.length) (r : List Int) (next k : Int) : ordM (l.drop j ++ r) next k = if l[j] ≠ next ∨ k ≤ l[j] then none else ordM (l.drop (j + 1) ++ r) (next + 1) k := by
  rw [List.drop_eq_getElem_cons hj, List.cons_append, ordM]

/-- Whether a line fits on a page that has n lines of the body and s lines of notes, q lines of notes being known. -/
def fitsB (h : Int) (x : Line) (n s q : Int) : Bool :=
  if x.notes = [] then decide (0 < h - n - s - min s 1) else decide (s = q) && decide (3 - min s 1 ≤ h - n - s - min s 1)

def noteAt (notes : List (List Line)) (i : Int) : List Line := (notes[i.toNat]?).getD []

/-- How many lines of notes stand on the page once there are n lines of the body, and q lines of notes. -/
def growM (h n s q : Int) : Int := if 0 < q - s then s + min (q - s) (h - n - s - min s 1 - 1 + min s 1) else s

/-- A page is filled with lines of the body. -/
def fillM (h : Int) (notes : List (List Line)) : List Line → Int → List Line → Int → Int × List Line × Int
  | [], n, q, s => (n, q, s)
  | x :: r, n, q, s =>
    if fitsB h x n s q.length then fillM h notes r (n + 1) (q ++ x.notes.flatMap (noteAt notes)) (growM h (n + 1) s (q ++ x.notes.flatMap (noteAt notes)).length)
    else (n, q, s)

/-- The pages. -/
def setM (h : Int) (notes : List (List Line)) : Nat → List Line → List Line → List Pg
  | 0, _, _ => []
  | f + 1, body, q =>
    if body.isEmpty && q.isEmpty then []
    else
      let r := fillM h notes body 0 q (min q.length (h - 1))
      ⟨0, 0, 0, 0, body.take r.1.toNat, r.2.1.take r.2.2.toNat⟩ :: setM h notes f (body.drop r.1.toNat) (r.2.1.drop r.2.2.toNat)

/-- How many lines the notes have that some lines refer to. -/
def sumR (notes : List (List Line)) (body : List Line) : Nat := ((refs body).flatMap (noteAt notes)).length

def setAll (h : Int) (body : List Line) (notes : List (List Line)) : List Pg := setM h notes (body.length + sumR notes body + 1) body []

theorem sumR_drop (notes : List (List Line)) (body : List Line) (k : Nat) (hk : k < body.length) : sumR notes (body.drop k) = (body[k].notes.flatMap (noteAt notes)).length + sumR notes (body.drop (k + 1)) := by
  unfold sumR
  rw [refs_drop body k hk, List.flatMap_append, List.length_append]

theorem ordM_range : ∀ (l : List Int) (next k r : Int), ordM l next k = some r → 0 ≤ next → ∀ x ∈ l, 0 ≤ x ∧ x < k
  | [], _, _, _, _, _, x, hx => by cases hx
  | n :: l, next, k, r, h, h0, x, hx => by
    simp only [ordM] at h
    split at h
    · cases h
    · rename_i hn
      have h1 : n = next := by
        apply Classical.byContradiction
        intro hc; exact hn (.inl hc)
      have h2 : ¬ k ≤ n := fun hc => hn (.inr hc)
      rcases List.mem_cons.1 hx with rfl | hx
      · omega
      · exact ordM_range l (next + 1) k r h (by omega) x hx

theorem chk_ok {body : List Line} {notes : List (List Line)} {h : Int} (hc : chkM body notes h = 0) : 4 ≤ h ∧ h ≤ 100 ∧ (∀ x ∈ notes, x ≠ []) ∧ ordM (refs body) 0 notes.length = some (notes.length : Int) := by
  unfold chkM at hc
  split at hc
  · cases hc
  rename_i h1
  split at hc
  · cases hc
  rename_i h2
  split at hc
  · cases hc
  rename_i n hn
  split at hc
  · cases hc
  rename_i h3
  refine ⟨by omega, by omega, fun x hx he => h2 (List.any_eq_true.2 ⟨x, hx, by simp [he]⟩), ?_⟩
  have h4 : ∀ (l : List Int) (next k r : Int), ordM l next k = some r → next ≤ k → r ≤ k := by
    intro l
    induction l with
    | nil => intro next k r h hk; simp [ordM] at h; omega
    | cons a l ih =>
      intro next k r h hk
      simp only [ordM] at h
      split at h
      · cases h
      · rename_i hna
        have h5 : a = next := by
          apply Classical.byContradiction
          intro hc; exact hna (.inl hc)
        have h6 : ¬ k ≤ a := fun hc => hna (.inr hc)
        exact ih (next + 1) k r h (by omega)
  have h7 := h4 _ _ _ _ hn (by omega)
  rw [hn, show n = (notes.length : Int) by omega]

theorem growM_bd (h n s q : Int) (h1 : 0 ≤ s) (h2 : s ≤ q) (h3 : n + s + min s 1 ≤ h) (h4 : s = 0 → 0 < q → n + 2 ≤ h) :
    s ≤ growM h n s q ∧ growM h n s q ≤ q ∧ n + growM h n s q + min (growM h n s q) 1 ≤ h ∧ (growM h n s q = 0 → q = 0) := by
  unfold growM
  split
  · refine ⟨by omega, by omega, by omega, by omega⟩
  · refine ⟨by omega, by omega, by omega, by omega⟩

theorem mem_refs {body : List Line} {k : Nat} (hk : k < body.length) {i : Int} (hi : i ∈ body[k].notes) : i ∈ refs body :=
  List.mem_flatMap.2 ⟨body[k], List.getElem_mem hk, hi⟩

theorem refs_sub {body : List Line} {k : Nat} {i : Int} (h : i ∈ refs (body.drop k)) : i ∈ refs body := by
  obtain ⟨x, hx, hi⟩ := List.mem_flatMap.1 h
  exact List.mem_flatMap.2 ⟨x, List.mem_of_mem_drop hx, hi⟩

theorem flat_take {α β : Type} (f : α → List β) (L : List α) (j : Nat) (hj : j < L.length) : (L.take (j + 1)).flatMap f = (L.take j).flatMap f ++ f L[j] := by
  rw [List.take_succ_eq_append_getElem hj, List.flatMap_append, List.flatMap_singleton]

theorem flat_take_le {α β : Type} (f : α → List β) (L : List α) (j : Nat) : ((L.take j).flatMap f).length ≤ (L.flatMap f).length := by
  have : (L.flatMap f).length = ((L.take j).flatMap f).length + ((L.drop j).flatMap f).length := by
    rw [← List.length_append, ← List.flatMap_append, List.take_append_drop]
  omega

theorem noteAt_get {notes : List (List Line)} {i : Int} (h : i.toNat < notes.length) : noteAt notes i = notes[i.toNat] := by
  simp [noteAt, h]

/-- What is known of a line that fits. -/
theorem fits_bd {h n s q : Int} {x : Line} (hb : fitsB h x n s q = true) (h0 : 0 ≤ s) (_hs0 : s = 0 → q = 0) : n + 1 + s + min s 1 ≤ h ∧ (x.notes = [] ∨ n + 3 + s ≤ h) := by
  unfold fitsB at hb
  split at hb
  · rename_i hx
    have := of_decide_eq_true hb
    exact ⟨by omega, .inl hx⟩
  · simp only [Bool.and_eq_true, decide_eq_true_eq] at hb
    exact ⟨by omega, .inr (by omega)⟩

theorem fits_first {h : Int} (x : Line) (hh : 4 ≤ h) : fitsB h x 0 0 0 = true := by
  unfold fitsB
  split
  · exact decide_eq_true (by omega)
  · have : (3 - min (0 : Int) 1 ≤ h - 0 - 0 - min 0 1) := by omega
    simpa using this

end Go.Proofs.Ytocoinkhbjlbhaa
