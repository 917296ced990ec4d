/-
  Layer 26 in plain lists: slack, cost, the best ends; and that they are the best.
-/
import Derived.Test.YtocoinkhbjlbhaaBase
namespace Go.Proofs.Ytocoinkhbjlbhaa

/-- The slack of a line. -/
def slk (m : Int) (l : List Int) : Int := m + 6 - (l.map (· + 6)).sum

theorem slk_cons (m x : Int) (l : List Int) : slk m (x :: l) = slk (m - (x + 6)) l := by
  unfold slk
  rw [List.map_cons, List.sum_cons]
  omega

theorem slk_nil (m : Int) : slk m [] = m + 6 := by simp [slk]

theorem slk_snoc (m x : Int) (l : List Int) : slk m (l ++ [x]) = slk m l - (x + 6) := by
  unfold slk
  rw [List.map_append, List.sum_append]
  simp
  omega

/-- The words are regular. -/
def okW (w : List Int) : Bool := !(w.any fun x => decide (x < 1) || decide (480 < x))

theorem okW_mem {w : List Int} (h : okW w = true) : ∀ x ∈ w, 1 ≤ x ∧ x ≤ 480 := fun x hx => by
  unfold okW at h
  rw [Bool.not_eq_true', List.any_eq_false] at h
  have := h x hx
  simp at this
  omega

theorem okW_of {w : List Int} (h : ∀ x ∈ w, 1 ≤ x ∧ x ≤ 480) : okW w = true := by
  unfold okW
  rw [Bool.not_eq_true', List.any_eq_false]
  intro x hx
  have := h x hx
  simp
  omega

/-- The error of arguments. -/
def chk26 (w : List Int) (m : Int) : Int := if 500 < (w.length : Int) then 2 else if m < 500 ∨ 2000 < m then 5 else if okW w then 0 else 5

theorem chk26_ok {w : List Int} {m : Int} (h : chk26 w m = 0) : w.length ≤ 500 ∧ 500 ≤ m ∧ m ≤ 2000 ∧ ∀ x ∈ w, 1 ≤ x ∧ x ≤ 480 := by
  unfold chk26 at h
  split at h
  · cases h
  · split at h
    · cases h
    · split at h
      · rename_i h1 h2 h3
        exact ⟨by omega, by omega, by omega, okW_mem h3⟩
      · cases h

/-- The ends are in order, and the last one is the end. -/
def ordE (n : Int) : Int → List Int → Bool
  | last, [] => decide (last = n)
  | last, e :: r => decide (last < e) && ordE n e r

/-- The words from one end to the next. -/
def seg (w : List Int) (a b : Int) : List Int := (w.drop a.toNat).take (b.toNat - a.toNat)

/-- The cost of the lines from a word on; none: a line does not fit. -/
def costG (w : List Int) (m : Int) : Int → List Int → Option Int
  | _, [] => some 0
  | a, e :: r => if slk m (seg w a e) < 0 then none else if r = [] then some 0 else (costG w m e r).map fun c => slk m (seg w a e) * slk m (seg w a e) + c

def costM (w : List Int) (m : Int) (ends : List Int) : Int × Int :=
  if chk26 w m ≠ 0 then (0, chk26 w m)
  else if ordE w.length 0 ends then match costG w m 0 ends with
    | some c => (c, 0)
    | none => (0, 9)
  else (0, 12)

/-- The first line from a word on: x :: r: the words, T: for each place behind one of them the cost and the end from there. -/
def inn (m : Int) : List Int → List (Int × Int) → Int → Int → Int → Int → Int × Int
  | x :: r, t :: T, j, s, c, e =>
    if s - (x + 6) < 0 then (c, e)
    else if r = [] then (0, j)
    else if c < 0 ∨ (s - (x + 6)) * (s - (x + 6)) + t.1 ≤ c then inn m r T (j + 1) (s - (x + 6)) ((s - (x + 6)) * (s - (x + 6)) + t.1) j
    else inn m r T (j + 1) (s - (x + 6)) c e
  | _, _, _, _, c, e => (c, e)

/-- For each place the cost and the end of the first line from there. -/
def dpl (m : Int) : List Int → Int → List (Int × Int)
  | [], _ => [(0, 0)]
  | x :: r, i => inn m (x :: r) (dpl m r (i + 1)) (i + 1) (m + 6) (-1) 0 :: dpl m r (i + 1)

theorem dpl_len (m : Int) : ∀ (w : List Int) (i : Int), (dpl m w i).length = w.length + 1
  | [], _ => rfl
  | x :: r, i => by rw [dpl, List.length_cons, dpl_len m r (i + 1), List.length_cons]

theorem dpl_drop (m : Int) : ∀ (w : List Int) (i : Int) (k : Nat), k ≤ w.length → (dpl m w i).drop k = dpl m (w.drop k) (i + k)
  | w, i, 0, _ => by simp
  | [], i, k + 1, h => by simp at h
  | x :: r, i, k + 1, h => by
    rw [dpl, List.drop_succ_cons, List.drop_succ_cons, dpl_drop m r (i + 1) k (by simpa using h)]
    congr 1
    omega

/-- The ends, from a place on. -/
def walkE (D : List (Int × Int)) (n : Int) : Nat → Int → List Int
  | 0, _ => []
  | f + 1, i => if i < n then ((D[i.toNat]?).getD (0, 0)).2 :: walkE D n f ((D[i.toNat]?).getD (0, 0)).2 else []

def endsM (w : List Int) (m : Int) : List Int := walkE (dpl m w 0) w.length (w.length + 1) 0

/-- What the search finds: the best end, the last one of these. -/
structure Best (m : Int) (u : List Int) (T : List (Int × Int)) (i : Int) (p : Int × Int) : Prop where
  lo : i < p.2
  hi : p.2 ≤ i + u.length
  fit : 0 ≤ slk m (u.take (p.2 - i).toNat)
  eq : p.1 = if p.2 = i + u.length then 0 else slk m (u.take (p.2 - i).toNat) * slk m (u.take (p.2 - i).toNat) + ((T[(p.2 - i).toNat - 1]?).getD (0, 0)).1
  le : ∀ k : Nat, 0 < k → k ≤ u.length → 0 ≤ slk m (u.take k) → p.1 ≤ (if k = u.length then 0 else slk m (u.take k) * slk m (u.take k) + ((T[k - 1]?).getD (0, 0)).1) ∧
    ((if k = u.length then 0 else slk m (u.take k) * slk m (u.take k) + ((T[k - 1]?).getD (0, 0)).1) = p.1 → i + k ≤ p.2)

end Go.Proofs.Ytocoinkhbjlbhaa
