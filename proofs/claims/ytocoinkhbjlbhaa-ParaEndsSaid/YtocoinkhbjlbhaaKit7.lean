/-
  More laws: a slice held against nil; an element's cells changed.
-/
import Derived.Test.YtocoinkhbjlbhaaKit6
import Derived.Lib.SliceRun
namespace Go.Proofs.Ytocoinkhbjlbhaa
open Go Go.RowKit

section
variable {P : Program} {N : Nat} {fr : Fr} {w : World} {Ψ : Value → World → Prop} {d : Option Tmp} {ty : TypeId} {pos : String} {aft : Array Edge} {g : Option (Nat × Bool)}

theorem op_eqlNil {α : Type} {E : Enc α} {M : Mut} {x y : Operand} {v : Value} {l : List α} {t u e : TypeId} (ht : P.underlying t = some (.slice e)) (hx : opv fr x = some v) (hy : opv fr y = some (.slice none 0 0)) (hs : SlOf E M w v l)
    (h : ∀ b : Bool, (b = true → l = []) → Ψ (.bool b) w) : OP P N ⟨d, .binOp .eql t x y u, ty, pos, aft, g⟩ fr w Ψ := by
  obtain ⟨a, cap, h1, h2, h3, h4, _⟩ := hs.ex
  refine OP.val (v := .bool a.isNone) (w' := w) (fun ac ha => ?_) (h _ fun hn => ?_)
  · subst h1
    simp [execOp, ha.eval hx, ha.eval hy, eqGuard_at_slice, Lib.run_eql_slice_nil w t e a l.length cap 0 0 ht]
  · have : a = none := by simpa using hn
    have := h4 this
    exact List.eq_nil_of_length_eq_zero (by omega)

/-- A store of what is there already. -/
theorem op_storeU {M : Mut} {b tag off : Nat} {cs c : List Value} {e t : TypeId} {sz by' : Nat} {agg : Bool} {z : List Value} {x y : Operand} {v : Value} (hT : TD P t sz by' agg z)
    (hx : opv fr x = some (.pointer (some ⟨b, off, none⟩))) (hy : opv fr y = some v) (hc : v.cells = c.toArray) (h1 : ∀ u ∈ c, u.oneCell' = true) (hsz : c.length = sz)
    (hb : Box M w b tag cs e) (hv : off + c.length ≤ cs.length) (heq : splice cs off c = cs)
    (h : ∀ w', UpM M w M w' → Ψ undef w') : OP P N ⟨d, .store t x y, ty, pos, aft, g⟩ fr w Ψ := by
  have hst := run_storeCells_at P b off e c 0 cs.toArray w hb.heap (by simpa using hv) h1
  simp only [Nat.add_zero] at hst
  refine OP.skip (w' := w.setRow b (splice cs off c).toArray) (fun a ha => ?_) (h _ (UpM.of_below ⟨rfl, rfl, rfl, by simp [World.setRow], fun k _ => ?_⟩))
  · simp only [execOp, ha.eval hx, ha.eval hy, Instr.storeAt, Instr.sureAddr, storeVar]
    simp [hT.run_sizeOf (w := w), hsz, hc, hst, splice]
  · by_cases hk : k = b
    · subst hk
      rw [setRow_heap w k _ _ e _ hb.heap, heq]
      exact hb.heap.symm
    · exact setRow_other w b k _ hk

/-- x[lo:] of a slice that is appended to. -/
theorem op_slice_lG {α : Type} {E : Enc α} {M : Mut} {B tag : Nat} {x lo : Operand} {v : Value} {l : List α} {t e : TypeId} {k : IntKind} {m : Int} (ht : P.underlying t = some (.slice e)) (hE : TE P e E)
    (hx : opv fr x = some v) (hlo : opv fr lo = some (.int k m)) (hs : SlOf E M w v l) (hg : Grow B M w v l.length E.sz tag e) (hb : 0 ≤ m ∧ m ≤ l.length)
    (h : ∀ v', SlOf E M w v' (l.drop m.toNat) → Grow B M w v' (l.drop m.toNat).length E.sz tag e → Ψ v' w) : OP P N ⟨d, .slice t x (some lo) none none, ty, pos, aft, g⟩ fr w Ψ := by
  obtain ⟨a, cap, e1, e2, _⟩ := hs.ex
  obtain ⟨z, hz, hT⟩ := hE
  have hcut := hs.cut (lo := m.toNat) (hi := l.length) e1 (by omega) (Nat.le_refl _)
  rw [List.take_of_length_le (by simp)] at hcut
  have hgc := hg.cut (lo := m.toNat) e1 (by omega)
  refine OP.val (w' := w) (fun a' ha => ?_) (h _ hcut (by rw [List.length_drop]; exact hgc))
  have b2 : (Instr.sliceBound (.int k m) l.length .sliceB).run P w = .ok m.toNat w := run_bound (by omega)
  simp only [execOp, ha.eval hx, ha.eval hlo, e1, Option.map_some, Option.map_none]
  simp [Instr.sliceAt, Instr.slice, run_underlying ht, Instr.sliceBounds, b2, hT.run_sizeOf (w := w)]

theorem Grow.up {B : Nat} {M M' : Mut} {w w' : World} {v : Value} {n sz tag : Nat} {e : TypeId} (h : Grow B M w v n sz tag e) (s : UpM M w M' w') : Grow B M' w' v n sz tag e := by
  rcases h.ex with h | ⟨g, off, cap, cur, h1, h2, h3, h4, h5, h6, h7⟩
  · exact ⟨.inl h⟩
  · have hl := (Array.getElem?_eq_some_iff.1 h3).1
    exact ⟨.inr ⟨g, off, cap, cur, h1, h2, (s.bel.block g hl).trans h3, h4, h5, h6, (s.old g hl).trans h7⟩⟩
end

/-- A return of a struct that lies in a variable. -/
theorem run_retc {P : Program} {f : FuncId} {N : Nat} {R : Value → World → Prop} {fr : Fr} {w : World} {k : List Item} {M : Mut} {fn : Func} {t u : Nat} {b tag : Nat} {cs : List Value} {e : TypeId} {sz by' : Nat} {z : List Value}
    (hf : P.funcs[f]? = some fn) (hr : fn.results = #[.cell t u]) (hl : look fr t = some (.pointer (some ⟨b, 0, none⟩))) (hT : TD P u sz by' true z) (hb : Box M w b tag cs e) (hs : cs.length = sz)
    (h : R (.agg cs.toArray) w) : Run P f N (.code .ret :: k) fr w R := ⟨fun a ha => runA_ret hf ha.defers (by
    have h1 := ha.slot t _ hl
    have hl := run_loadCells_list (P := P) w ⟨b, 0, none⟩ cs (fun j v hj => by
      rw [Addr.add_lit, hb.cell]
      simpa using hj)
    rw [hs] at hl
    simp only [results, hr]
    simp at h1
    simp [h1, asAddr, loadVar, hT.run_isAgg (w := w), hT.run_sizeOf (w := w), hl]) h⟩
theorem nin {t : Nat} {W : List Nat} (h : W.elem t = false) : t ∉ W := fun hm => by rw [List.elem_eq_true_of_mem hm] at h; cases h
theorem splice_left {a b c : List Value} {off : Nat} (h : off + c.length ≤ a.length) : splice (a ++ b) off c = splice a off c ++ b := by
  unfold splice
  rw [List.take_append_of_le_length (by omega), List.drop_append_of_le_length h]
  simp

theorem splice_right {a b c : List Value} {off : Nat} : splice (a ++ b) (a.length + off) c = a ++ splice b off c := by
  unfold splice
  rw [List.take_length_add_append, Nat.add_assoc, List.drop_length_add_append]
  simp

theorem CSS.update {α : Type} {E : Enc α} {M : Mut} {w : World} : ∀ {l : List α} {css : List Value}, CSS E M w css l → ∀ (i : Nat) (hi : i < l.length) (off : Nat) (c : List Value) (x' : α),
    (∀ cs, E.R M w cs l[i] → E.R M w (splice cs off c) x') → off + c.length ≤ E.sz → CSS E M w (splice css (i * E.sz + off) c) (l.set i x')
  | [], _, _, i, hi, _, _, _, _, _ => by simp at hi
  | x :: l, _, ⟨a, b, e, hR, hr⟩, 0, _, off, c, x', h, ho => by
    subst e
    have hl := E.len hR
    rw [Nat.zero_mul, Nat.zero_add, splice_left (by omega)]
    exact ⟨_, b, rfl, h a hR, hr⟩
  | x :: l, _, ⟨a, b, e, hR, hr⟩, i + 1, hi, off, c, x', h, ho => by
    subst e
    have hl := E.len hR
    have := hr.update i (by simpa using hi) off c x' (by simpa using h) ho
    rw [show (i + 1) * E.sz + off = a.length + (i * E.sz + off) by rw [Nat.add_mul, hl]; omega, splice_right]
    exact ⟨a, _, rfl, hR, this⟩

end Go.Proofs.Ytocoinkhbjlbhaa
