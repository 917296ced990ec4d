/-
  What comes in as data is read as the calculus reads it.
-/
import Derived.Test.YtocoinkhbjlbhaaKit10
import Derived.Deep.Slices
import Derived.SizedLaws
namespace Go.Proofs.Ytocoinkhbjlbhaa
open Go Go.RowKit Go.Deep

/-- Data of type t read as E says, in any memory. -/
def Rd {α : Type} (P : Program) (E : Enc α) (t : TypeId) : Prop := ∀ {H : Type} {enc : TypeId × Value → H} {W : World} {base : Nat} {spare : Nat → Bool} {held : Bool} {fuel : Nat} {cs : List Value} {x : DataW H × List MemPlace},
  DataW.trod enc P W base spare held fuel t cs = some x → (∀ n ∈ x.1.weights P t, n ≤ reachBytes) → ∃ d, E.R (fun _ => none) W cs d

section
variable {P : Program}

theorem rd_int {t : TypeId} (ht : P.underlying t = some (.int .i64)) : Rd P eI t := fun h _ => by
  obtain ⟨n, rfl, _, hw⟩ := DataW.trod_int ht h
  refine ⟨n, rfl, fun _ => ?_, fun e => by cases e⟩
  simp [Lit.wf] at hw
  exact hw

theorem weights_all {H : Type} {e : TypeId} : ∀ {l : List (DataW H)} {d : DataW H}, d ∈ l → ∀ n ∈ d.weights P e, n ∈ DataW.weightsAll P e l
  | x :: r, d, hd, n, hn => by
    simp only [DataW.weightsAll, List.mem_append]
    rcases List.mem_cons.1 hd with rfl | hd
    · exact .inl hn
    · exact .inr (weights_all hd n hn)

theorem rd_slice {α : Type} [Inhabited α] {E : Enc α} {t e : TypeId} (ht : P.underlying t = some (.slice e)) (hC : P.cellsOf e = E.sz) (hB : P.bytesOf e = E.by_) (hE : Rd P E e) : Rd P (eSl E) t := fun {H enc W base spare held fuel cs x} h hw => by
  rcases open_slice ht h with ⟨rfl, _⟩ | ⟨a, len, cap, m, n, D, Pl, rfl, hb, hl, hm, hmm, hx, hi⟩
  · exact ⟨[], _, rfl, SlOf.nil _ _ _⟩
  · subst hx
    simp only [DataW.weights, ht] at hw
    have hle : len ≤ m := by rw [hmm]; split <;> omega
    have hbytes : len * E.by_ ≤ 140737488351232 := by
      have := hw _ (by exact List.mem_cons_self)
      simp only [List.length_map, List.length_range, hB] at this
      have h2 : len * E.by_ ≤ (len + (m - len)) * E.by_ := Nat.mul_le_mul_right _ (by omega)
      exact Nat.le_trans h2 this
    have hel : ∀ i, i < len → ∃ d, Elem E (fun _ => none) W (a.add (i * E.sz)) d := fun i hi' => by
      obtain ⟨cs', hc, htr⟩ := hi i (by omega)
      obtain ⟨d, hd⟩ := hE htr (fun k hk => hw k (List.mem_cons_of_mem _ (List.mem_append_left _ (weights_all (List.mem_map.2 ⟨i, List.mem_range.2 hi', rfl⟩) k hk))))
      rw [hC] at hc
      obtain ⟨_, hcl, hat⟩ := World.cells?_some hc
      refine ⟨d, cs', hd, fun j c hj => ?_⟩
      have hjl : j < cs'.length := (List.getElem?_eq_some_iff.1 hj).1
      have := hat j (by omega)
      exact ⟨this.trans hj, fun p hp => by cases hp⟩
    obtain ⟨f, hf⟩ := choose_lt hel
    refine ⟨(List.range len).map f, _, rfl, a, cap, by simp, by simpa using hl, hm, (fun h => by cases h), by simpa using hbytes, fun ad he i hi' => ?_⟩
    cases he
    have hi2 : i < len := by simpa using hi'
    have := hf i hi2
    simpa using this
end

instance : Inhabited Line := ⟨⟨0, 0, [], []⟩⟩

theorem rdI : Rd Try.prog eI 3 := rd_int Try.underlying3
theorem rdSI : Rd Try.prog (eSl eI) 22 := rd_slice Try.underlying22 (by kernel_rfl) (by kernel_rfl) rdI

theorem rdL : Rd Try.prog eLine 47 := fun {H enc W base spare held fuel cs x} h hw => by
  obtain ⟨xs, n, _, rfl, hlen, hxl, hf⟩ := DataW.trod_struct Try.underlying47 h
  have hC : Try.prog.cellsOf 47 = 4 := by kernel_rfl
  have c1 : Try.prog.cellsOf 3 = 1 := by kernel_rfl
  have c2 : Try.prog.cellsOf 22 = 1 := by kernel_rfl
  rw [hC] at hlen
  match cs, hlen with
  | [a, b, c, d], _ =>
    match xs, hxl with
    | [x0, x1, x2, x3], _ =>
      have h0 : DataW.trod enc Try.prog W base spare held n 3 (([a, b, c, d].drop 0).take (Try.prog.cellsOf 3)) = some x0 := hf 0 _ rfl
      rw [c1] at h0
      change DataW.trod enc Try.prog W base spare held n 3 [a] = some x0 at h0
      have h1 : DataW.trod enc Try.prog W base spare held n 3 (([a, b, c, d].drop 1).take (Try.prog.cellsOf 3)) = some x1 := hf 1 _ rfl
      rw [c1] at h1
      change DataW.trod enc Try.prog W base spare held n 3 [b] = some x1 at h1
      have h2 : DataW.trod enc Try.prog W base spare held n 22 (([a, b, c, d].drop 2).take (Try.prog.cellsOf 22)) = some x2 := hf 2 _ rfl
      rw [c2] at h2
      change DataW.trod enc Try.prog W base spare held n 22 [c] = some x2 at h2
      have h3 : DataW.trod enc Try.prog W base spare held n 22 (([a, b, c, d].drop 3).take (Try.prog.cellsOf 22)) = some x3 := hf 3 _ rfl
      rw [c2] at h3
      change DataW.trod enc Try.prog W base spare held n 22 [d] = some x3 at h3
      have hw' : ∀ (j : Nat) (t : TypeId) (y : DataW H × List MemPlace), [3, 3, 22, 22][j]? = some t → [x0, x1, x2, x3][j]? = some y → ∀ k ∈ y.1.weights Try.prog t, k ≤ reachBytes := fun j t y ht hy k hk => by
        refine hw k ?_
        simp only [DataW.weights, Try.underlying47]
        refine DataW.weights_mem_each (j := j) (t := t) (d := y.1) ?_ ?_ k hk
        · exact ht
        · simp only [List.getElem?_map, hy, Option.map_some]
      obtain ⟨n0, ⟨e0, r0, _⟩⟩ := rdI h0 (hw' 0 _ _ rfl rfl)
      obtain ⟨n1, ⟨e1, r1, _⟩⟩ := rdI h1 (hw' 1 _ _ rfl rfl)
      obtain ⟨l2, v2, e2, s2⟩ := rdSI h2 (hw' 2 _ _ rfl rfl)
      obtain ⟨l3, v3, e3, s3⟩ := rdSI h3 (hw' 3 _ _ rfl rfl)
      simp only [List.cons.injEq, and_true] at e0 e1 e2 e3
      subst e0 e1 e2 e3
      exact ⟨⟨n0, n1, l2, l3⟩, eLine_R.2 ⟨_, _, rfl, r0 rfl, r1 rfl, s2, s3⟩⟩
theorem rdSL : Rd Try.prog (eSl eLine) 23 := rd_slice Try.underlying23 (by kernel_rfl) (by kernel_rfl) rdL
theorem rdSLL : Rd Try.prog (eSl (eSl eLine)) 24 := rd_slice Try.underlying24 (by kernel_rfl) (by kernel_rfl) rdSL

end Go.Proofs.Ytocoinkhbjlbhaa
