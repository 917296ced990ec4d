/-
  More laws of operations that make or write memory: slices and structs out of parts, variables in memory, rows that are filled.
-/
import Derived.Test.YtocoinkhbjlbhaaKit4
import Derived.Laws.CopyRow
namespace Go.Proofs.Ytocoinkhbjlbhaa
open Go Go.RowKit

/-! ### A slice or a struct, built of its parts -/

/-- c in the place from off on. -/
def splice (cs : List Value) (off : Nat) (c : List Value) : List Value := cs.take off ++ c ++ cs.drop (off + c.length)

theorem fill_step (c : Array Value) (off : Nat) (cells : Array Value) (h : off + c.size ≤ cells.size) :
    c.zipIdx.foldl (fun cs (p : Value × Nat) => cs.setIfInBounds (off + p.2) p.1) cells = (splice cells.toList off c.toList).toArray := by
  have key : ∀ (l : List Value) (k : Nat) (cs : List Value), off + k + l.length ≤ cs.length →
      ((l.zipIdx k).foldl (fun (cs : Array Value) (p : Value × Nat) => cs.setIfInBounds (off + p.2) p.1) cs.toArray) = (splice cs (off + k) l).toArray := by
    intro l
    induction l with
    | nil => intro k cs _; simp [splice]
    | cons v l ih =>
      intro k cs hl
      simp only [List.length_cons] at hl
      rw [List.zipIdx_cons, List.foldl_cons]
      simp only [List.setIfInBounds_toArray]
      rw [ih (k + 1) _ (by simp; omega)]
      congr 1
      unfold splice
      simp only [List.length_cons]
      apply List.ext_getElem?
      intro j
      simp only [List.append_assoc, List.getElem?_append, List.length_take, List.length_set, List.getElem?_take, List.getElem?_drop, List.getElem?_set]
      rcases Nat.lt_trichotomy j (off + k) with hj | hj | hj
      · simp [show j < off + (k + 1) by omega, show j < cs.length by omega, hj, show ¬ (off + k = j) by omega, show min (off + k) cs.length = off + k by omega, show min (off + (k + 1)) cs.length = off + (k + 1) by omega]
      · subst hj
        simp [show min (off + k) cs.length = off + k by omega, show min (off + (k + 1)) cs.length = off + (k + 1) by omega, show off + k < cs.length by omega, show off + k < off + (k + 1) by omega]
      · have e1 : min (off + k) cs.length = off + k := by omega
        have e2 : min (off + (k + 1)) cs.length = off + (k + 1) := by omega
        simp only [e1, e2, if_neg (show ¬ j < off + (k + 1) by omega), if_neg (show ¬ j < off + k by omega)]
        have e3 : j - (off + k) = (j - (off + (k + 1))) + 1 := by omega
        rw [e3]
        simp only [List.getElem?_cons_succ, List.length_cons]
        split
        · rw [if_pos (by omega)]
        · rw [if_neg (by omega), if_neg (by omega)]
          congr 1
          omega
  have := key c.toList 0 cells.toList (by simpa using h)
  rw [← Array.foldl_toList]
  simpa [Array.toList_zipIdx] using this

/-- Several parts, one behind the other. -/
def splices : List Value → List (Nat × List Value) → List Value
  | cs, [] => cs
  | cs, (off, c) :: r => splices (splice cs off c) r

theorem length_splice {cs c : List Value} {off : Nat} (h : off + c.length ≤ cs.length) : (splice cs off c).length = cs.length := by
  unfold splice
  simp
  omega

/-- The parts have places, and their cells are these. -/
def PartsOk (place : Nat → Option (Nat × Nat)) (n : Nat) : List (Nat × Value) → List (Nat × List Value) → Prop
  | [], [] => True
  | (i, v) :: r, (off, c) :: s => place i = some (off, c.length) ∧ v.cells = c.toArray ∧ off + c.length ≤ n ∧ PartsOk place n r s
  | _, _ => False

theorem fill_eq {place : Nat → Option (Nat × Nat)} : ∀ (parts : List (Nat × Value)) (pl : List (Nat × List Value)) (cells : List Value),
    PartsOk place cells.length parts pl → Instr.fill place cells.toArray parts = some (splices cells pl).toArray
  | [], [], cells, _ => by simp [Instr.fill, splices]
  | [], _ :: _, _, h => h.elim
  | _ :: _, [], _, h => by simp [PartsOk] at h
  | (i, v) :: r, (off, c) :: qs, cells, ⟨e1, e2, e3, h2⟩ => by
    have hs : v.cells.size = c.length := by rw [e2]; simp
    have hn' : (decide (v.cells.size ≠ c.length) || decide (off + v.cells.size > cells.toArray.size)) = false := by
      simp [hs]; omega
    have hf := fill_step v.cells off cells.toArray (by rw [hs]; simpa using e3)
    simp only [Instr.fill, e1]
    rw [if_neg (by simpa using hn')]
    have hf' : v.cells.zipIdx.foldl (fun cs x => match x with | (c, j) => cs.setIfInBounds (off + j) c) cells.toArray = (splice cells off c).toArray := by
      rw [show c = v.cells.toList by rw [e2]]; exact hf
    rw [hf', splices]
    exact fill_eq r qs _ (by rw [length_splice e3]; exact h2)

section
variable {P : Program} {w : World} {N : Nat} {fr : Fr} {Ψ : Value → World → Prop} {d : Option Tmp} {ty : TypeId} {pos : String} {aft : Array Edge} {g : Option (Nat × Bool)}

/-- The places of a struct's fields, and its zero. -/
structure SB (P : Program) (t : TypeId) (plc : List (Nat × Nat)) (z : List Value) : Prop where
  ex : ∃ fs, P.underlying t = some (.struct fs) ∧ (∀ w, (fs.mapM fun f => do pure (f.offset, ← sizeOf f.type) : Sem (Array (Nat × Nat))).run P w = .ok plc.toArray w)
  zero : ∃ z', ∀ w, (zeroValue t).run P w = .ok z' w ∧ z'.cells = z.toArray

/-- A struct of its parts: 'pl': for each part its place and its cells. -/
theorem op_build {t : TypeId} {plc : List (Nat × Nat)} {z : List Value} {parts : List (Nat × Operand)} {vs : List Value} {pl : List (Nat × List Value)} (hS : SB P t plc z)
    (hx : opvs fr (parts.map (·.2)) = some vs)
    (hp : PartsOk (fun i => plc[i]?) z.length ((parts.map (·.1)).zip vs) pl)
    (h : Ψ (.agg (splices z pl).toArray) w) : OP P N ⟨d, .build t parts.toArray, ty, pos, aft, g⟩ fr w Ψ := by
  obtain ⟨fs, h1, h2⟩ := hS.ex
  obtain ⟨z', h3⟩ := hS.zero
  refine OP.val (v := .agg (splices z pl).toArray) (w' := w) (fun a ha => ?_) h
  have hm := ha.evals hx
  have hparts : (parts.map fun x => (x.1, a.eval x.2)) = (parts.map (·.1)).zip vs := by
    rw [← hm, List.map_map, List.zip_map', ]
    rfl
  have hf := fill_eq (place := fun i => plc[i]?) _ pl z hp
  have h4 := (h3 w).2
  have hrun : (Instr.build t ((parts.map fun x => (x.1, a.eval x.2)).toArray)).run P w = .ok (.agg (splices z pl).toArray) w := by
    rw [hparts]
    simp only [Instr.build, Sem.run_bind, (h3 w).1, Result.andThen_ok, run_underlying h1, h4]
    have h2' := h2 w
    rw [h2', Result.andThen_ok]
    have e : (fun x => plc.toArray[x]?) = fun i : Nat => plc[i]? := by funext x; simp
    simp only [e, hf]
    rfl
  have e : (Array.map (fun x => match x with | (i, x) => (i, a.eval x)) parts.toArray) = (parts.map fun x => (x.1, a.eval x.2)).toArray := by simp
  simp only [execOp]
  rw [e, Sem.run_bind, hrun]
  rfl

/-- The values of a list's elements. -/
def Vals {α : Type} (E : Enc α) (M : Mut) (w : World) : List Value → List α → Prop
  | [], [] => True
  | v :: vs, x :: l => E.V M w v x ∧ Vals E M w vs l
  | _, _ => False

theorem Vals.len {α : Type} {E : Enc α} {M : Mut} {w : World} : ∀ {vs : List Value} {l : List α}, Vals E M w vs l → vs.length = l.length
  | [], [], _ => rfl
  | _ :: _, _ :: _, h => by simp [h.2.len]
  | [], _ :: _, h => h.elim
  | _ :: _, [], h => h.elim

theorem zip_range'_cons (k n : Nat) (v : Value) (vs : List Value) : (List.range' k (n + 1)).zip (v :: vs) = (k, v) :: (List.range' (k + 1) n).zip vs := by
  rw [List.range'_succ, List.zip_cons_cons]

theorem fill_vals {α : Type} {E : Enc α} {M : Mut} {w : World} : ∀ (vs : List Value) (l : List α) (k : Nat) (pre : List Value) (cells : List Value), Vals E M w vs l → pre.length = k * E.sz →
    cells.length = (k + vs.length) * E.sz → cells.take (k * E.sz) = pre →
    ∃ css, CSS E M w css l ∧ Instr.fill (fun i => some (i * E.sz, E.sz)) cells.toArray ((List.range' k vs.length).zip vs) = some (pre ++ css).toArray
  | [], [], k, pre, cells, _, h1, h2, h3 => by
    refine ⟨[], rfl, ?_⟩
    simp only [List.length_nil, Nat.add_zero] at h2
    rw [List.take_of_length_le (by omega)] at h3
    simp [Instr.fill, h3]
  | v :: vs, x :: l, k, pre, cells, ⟨⟨cs, hR, hv⟩, hr⟩, h1, h2, h3 => by
    have hcs : v.cells = cs.toArray := by rw [hv]; exact mkv_cells hR
    have hl := E.len hR
    simp only [List.length_cons] at h2
    have hfit : k * E.sz + cs.length ≤ cells.length := by
      rw [h2, hl, Nat.add_mul, Nat.add_mul]; omega
    obtain ⟨css, hcss, hf⟩ := fill_vals vs l (k + 1) (pre ++ cs) (splice cells (k * E.sz) cs) hr (by rw [List.length_append, h1, hl, Nat.add_mul]; omega)
      (by rw [length_splice hfit, h2]; congr 1; omega) (by
        unfold splice
        rw [h3, show (k + 1) * E.sz = (pre ++ cs).length by rw [List.length_append, h1, hl, Nat.add_mul]; omega]
        exact List.take_left)
    refine ⟨cs ++ css, ⟨cs, css, rfl, hR, hcss⟩, ?_⟩
    rw [List.length_cons, zip_range'_cons]
    have hn' : (decide (v.cells.size ≠ E.sz) || decide (k * E.sz + v.cells.size > cells.toArray.size)) = false := by
      rw [hcs]; simp [hl]; omega
    have hfs := fill_step v.cells (k * E.sz) cells.toArray (by rw [hcs]; simpa using hfit)
    simp only [Instr.fill]
    rw [if_neg (by simpa using hn')]
    have hf' : v.cells.zipIdx.foldl (fun cs x => match x with | (c, j) => cs.setIfInBounds (k * E.sz + j) c) cells.toArray = (splice cells (k * E.sz) cs).toArray := by
      rw [show cs = v.cells.toList by rw [hcs]]; exact hfs
    rw [hf', hf, List.append_assoc]
  | [], _ :: _, _, _, _, h, _, _, _ => h.elim
  | _ :: _, [], _, _, _, h, _, _, _ => h.elim

theorem below_alloc (w : World) (o : Obj) : Below w.heap.size w (w.alloc o) := (Below.refl _ _).alloc (Nat.le_refl _) o

/-- []T{x0, x1, ..}: all parts, in order. -/
theorem op_buildSlice {α : Type} {E : Enc α} {M M0 : Mut} {w0 : World} {t e : TypeId} {n : Nat} {parts : List (Nat × Operand)} {vs : List Value} {l : List α} (ht : P.underlying t = some (.slice e)) (hE : TE P e E)
    (hr : Rn M0 w0 M w) (hi : parts.map (·.1) = List.range' 0 n) (hx : opvs fr (parts.map (·.2)) = some vs) (hv : Vals E M w vs l) (hn : n = l.length) (hb : l.length * E.sz ≤ 16777216 ∧ l.length * E.by_ ≤ 140737488351232)
    (h : ∀ v' w', SlOf E M w' v' l → (∃ a, v' = .slice a l.length l.length) → Below w.heap.size w w' → Ψ v' w') : OP P N ⟨d, .buildSlice t n parts.toArray, ty, pos, aft, g⟩ fr w Ψ := by
  obtain ⟨z, hz, hT⟩ := hE
  obtain ⟨i, z', hi', hs, hby, hz', hzc⟩ := hT.info
  have hlen := hv.len
  subst hn
  have hcs : ∃ css, CSS E M w css l ∧ (Instr.buildSlice t l.length ((parts.map (·.1)).zip vs).toArray).run P w = .ok (.slice (some ⟨w.heap.size, 0, none⟩) l.length l.length) (w.alloc (.cells css.toArray e)) := by
    have hcl : ∀ (zs : Array Value), ((Array.range (l.length * E.sz)).map (fun x => zs[x % zs.size]!)).toList.length = (0 + vs.length) * E.sz := by
      intro zs; simp [hlen]
    by_cases h0 : l.length * E.sz = 0
    · have hl0 : l.length = 0 := by
        have := E.pos
        rcases Nat.mul_eq_zero.1 h0 with h | h <;> omega
      have : l = [] := List.eq_nil_of_length_eq_zero hl0
      subst this
      have : vs = [] := List.eq_nil_of_length_eq_zero hlen
      subst this
      exact ⟨[], rfl, by simp [Instr.buildSlice, run_underlying ht, hT.run_sizeOf (w := w), newRow, Instr.fill, Array.range_zero']⟩
    · obtain ⟨css, h1, h2⟩ := fill_vals vs l 0 [] _ hv (by simp) (hcl z'.cells) (by simp)
      refine ⟨css, h1, ?_⟩
      rw [hi, ← hlen]
      simp only [Array.toArray_toList, List.nil_append] at h2
      rw [← hlen] at h0 h2 hb
      have hb' : ¬ (16777216 < vs.length * E.sz) := by omega
      simp [Instr.buildSlice, run_underlying ht, hT.run_sizeOf (w := w), h0, newRow, zeroValue, typeInfo, hi', hz', hb', h2]
  obtain ⟨css, hcss, hrun⟩ := hcs
  have hbel := below_alloc w (.cells css.toArray e)
  have h63 : l.length ≤ maxLen := by
    have h1 := E.bpos
    have : l.length * 1 ≤ l.length * E.by_ := Nat.mul_le_mul_left _ h1
    unfold maxLen
    omega
  refine OP.val (v := .slice (some ⟨w.heap.size, 0, none⟩) l.length l.length) (w' := w.alloc (.cells css.toArray e)) (fun a ha => ?_) (h _ _ ?_ ⟨_, rfl⟩ hbel)
  · have hm := ha.evals hx
    have e1 : (Array.map (fun x => match x with | (i, x) => (i, a.eval x)) parts.toArray) = ((parts.map (·.1)).zip vs).toArray := by
      rw [← hm, List.map_map, List.zip_map']
      simp
    simp only [execOp]
    rw [e1, Sem.run_bind, hrun]
    rfl
  · exact SlOf.of_row (g := w.heap.size) (cur := css.toArray) (fz := (0, 0)) (hcss.mono (X.of_below hbel)) (heap_alloc_new w _) (by rw [← hcss.len]; simp) (Nat.le_refl _) h63 hb.2 (fun p hp => by rw [hr.mb _ (Nat.le_refl _)] at hp; cases hp)

/-! ### Variables in memory -/

/-- A new variable, or a parameter laid in memory. -/
theorem op_box {M M0 : Mut} {w0 : World} {e : TypeId} {x : Operand} {v : Value} {cs : List Value} (tag : Nat) (hr : Rn M0 w0 M w) (hx : opv fr x = some v) (hc : v.cells = cs.toArray)
    (h : ∀ b w' M', w0.heap.size ≤ b → Box M' w' b tag cs e → UpM M w M' w' → Ψ (.pointer (some ⟨b, 0, none⟩)) w') : OP P N ⟨d, .box e x, ty, pos, aft, g⟩ fr w Ψ := by
  refine OP.val (v := .pointer (some ⟨w.heap.size, 0, none⟩)) (w' := w.alloc (.cells cs.toArray e)) (fun a ha => ?_) (h _ _ (M.set w.heap.size (some (0, tag))) hr.size ⟨heap_alloc_new w _, by simp [Mut.set]⟩ (UpM.alloc _ _))
  simp [execOp, ha.eval hx, Instr.box, newVar, newRow, hc]
theorem op_alloc {M M0 : Mut} {w0 : World} {e : TypeId} {sz by' : Nat} {agg : Bool} {z : List Value} (tag : Nat) (hr : Rn M0 w0 M w) (hT : TD P e sz by' agg z)
    (h : ∀ b w' M', w0.heap.size ≤ b → Box M' w' b tag z e → UpM M w M' w' → Ψ (.pointer (some ⟨b, 0, none⟩)) w') : OP P N ⟨d, .alloc e, ty, pos, aft, g⟩ fr w Ψ := by
  obtain ⟨i, z', hi, hs, hby, hz', hzc⟩ := hT.info
  refine OP.val (v := .pointer (some ⟨w.heap.size, 0, none⟩)) (w' := w.alloc (.cells z.toArray e)) (fun a ha => ?_) (h _ _ (M.set w.heap.size (some (0, tag))) hr.size ⟨heap_alloc_new w _, by simp [Mut.set]⟩ (UpM.alloc _ _))
  simp [execOp, Instr.alloc, newVar, newRow, zeroValue, typeInfo, hi, hz', hzc]

theorem Box.cell {M : Mut} {b tag : Nat} {cs : List Value} {e : TypeId} (h : Box M w b tag cs e) (j : Nat) : w.cell? ⟨b, j, none⟩ = cs[j]? := by
  rw [cell_of_row w b j _ e _ h.heap]; simp

/-- A variable's one cell, read. -/
theorem op_load1 {M : Mut} {b tag off : Nat} {cs : List Value} {e t : TypeId} {sz by' : Nat} {z : List Value} {x : Operand} {v : Value} (hT : TD P t sz by' false z) (hx : opv fr x = some (.pointer (some ⟨b, off, none⟩)))
    (hb : Box M w b tag cs e) (hv : cs[off]? = some v) (h : Ψ v w) : OP P N ⟨d, .load t x, ty, pos, aft, g⟩ fr w Ψ :=
  OP.val (v := v) (w' := w) (fun a ha => by
    have := hb.cell off
    rw [hv] at this
    simp [execOp, ha.eval hx, Instr.loadAt, Instr.sureAddr, loadVar, hT.run_isAgg (w := w), this]) h
/-- A struct, read out of a variable. -/
theorem op_loadn {M : Mut} {b tag off : Nat} {cs : List Value} {e t : TypeId} {sz by' : Nat} {z : List Value} {x : Operand} (hT : TD P t sz by' true z) (hx : opv fr x = some (.pointer (some ⟨b, off, none⟩)))
    (hb : Box M w b tag cs e) (hv : off + sz ≤ cs.length) (h : Ψ (.agg ((cs.drop off).take sz).toArray) w) : OP P N ⟨d, .load t x, ty, pos, aft, g⟩ fr w Ψ :=
  OP.val (v := .agg ((cs.drop off).take sz).toArray) (w' := w) (fun a ha => by
    have hl := run_loadCells_list (P := P) w ⟨b, off, none⟩ ((cs.drop off).take sz) (fun j v hj => by
      rw [Addr.add_lit, hb.cell]
      rw [List.getElem?_take] at hj
      split at hj
      · rw [List.getElem?_drop] at hj; exact hj
      · cases hj)
    have hlen : ((cs.drop off).take sz).length = sz := by simp; omega
    rw [hlen] at hl
    simp [execOp, ha.eval hx, Instr.loadAt, Instr.sureAddr, loadVar, hT.run_isAgg (w := w), hT.run_sizeOf (w := w), hl]) h

/-- A store into a variable, or into a row. -/
theorem op_store {M M0 : Mut} {w0 : World} {b tag off : Nat} {cs c : List Value} {e t : TypeId} {sz by' : Nat} {agg : Bool} {z : List Value} {x y : Operand} {v : Value} (hT : TD P t sz by' agg z)
    (hx : opv fr x = some (.pointer (some ⟨b, off, none⟩))) (hy : opv fr y = some v) (hc : v.cells = c.toArray) (h1 : ∀ u ∈ c, u.oneCell' = true) (hsz : c.length = sz) (_hr : Rn M0 w0 M w) (hB : w0.heap.size ≤ b)
    (hb : Box M w b tag cs e) (hv : off + c.length ≤ cs.length)
    (h : ∀ w', Box M w' b tag (splice cs off c) e → St w0.heap.size (some tag) M w M w' → Ψ undef w') : OP P N ⟨d, .store t x y, ty, pos, aft, g⟩ fr w Ψ := by
  have hst := run_storeCells_at P b off e c 0 cs.toArray w hb.heap (by simpa using hv) h1
  simp only [Nat.add_zero] at hst
  have hM : M = M.set b (some (0, tag)) := by
    funext k
    unfold Mut.set
    split
    · rename_i hk; subst hk; exact hb.mark
    · rfl
  refine OP.skip (w' := w.setRow b (splice cs off c).toArray) (fun a ha => ?_) (h _ ⟨setRow_heap w b _ _ e _ hb.heap, hb.mark⟩ ?_)
  · simp only [execOp, ha.eval hx, ha.eval hy, Instr.storeAt, Instr.sureAddr, storeVar]
    simp [hT.run_sizeOf (w := w), hsz, hc, hst, splice]
  · have := St.write (M := M) (w := w) (w' := w.setRow b (splice cs off c).toArray) (k := 0) (k' := 0) hB hb.lt hb.mark rfl (Nat.le_refl _) rfl rfl rfl (by simp [World.setRow]) (fun k hk => setRow_other w b k _ hk) (fun off ho => by omega)
    rwa [← hM] at this

/-- make([]T, n): a row that is still to be filled. -/
theorem op_make {M M0 : Mut} {w0 : World} {t e : TypeId} {k k' : IntKind} {n : Int} {sz by' : Nat} {agg : Bool} {z : List Value} {x y : Operand} (tag : Nat) (ht : P.underlying t = some (.slice e)) (hT : TD P e sz by' agg z)
    (hx : opv fr x = some (.int k n)) (hy : opv fr y = some (.int k' n)) (hr : Rn M0 w0 M w) (h0 : 0 ≤ n) (hb : by' * n.toNat ≤ 140737488351232) (h63 : n ≤ 9223372036854775807)
    (h : ∀ b w' M', w0.heap.size ≤ b → Box M' w' b tag (madeCells z.toArray (n.toNat * sz)).toList e → UpM M w M' w' → Ψ (.slice (some ⟨b, 0, none⟩) n.toNat n.toNat) w') :
    OP P N ⟨d, .makeSlice t x y, ty, pos, aft, g⟩ fr w Ψ := by
  obtain ⟨i, z', hi, hs, hby, hz', hzc⟩ := hT.info
  have hbi : (i.bytes : Int) * n ≤ 281474976710656 := by
    rw [hby]
    have : ((by' * n.toNat : Nat) : Int) ≤ 140737488351232 := by omega
    rw [Int.natCast_mul, Int.toNat_of_nonneg h0] at this
    omega
  have hrun := run_make (P := P) w t e i z' ht hi hz' k k' n n h0 (Int.le_refl _) hbi h63
  refine OP.val (v := .slice (some ⟨w.heap.size, 0, none⟩) n.toNat n.toNat) (w' := w.alloc (.cells (madeCells z'.cells (n.toNat * i.size)) e)) (fun a ha => ?_)
    (h _ _ (M.set w.heap.size (some (0, tag))) hr.size ⟨by rw [hzc, hs]; simpa using heap_alloc_new w _, by simp [Mut.set]⟩ (UpM.alloc _ _))
  simp [execOp, ha.eval hx, ha.eval hy, hrun]

theorem CSS.replicate {α : Type} {E : Enc α} {M : Mut} {w : World} {z : List Value} {x : α} (h : E.R M w z x) : ∀ (n : Nat), CSS E M w (List.replicate n z).flatten (List.replicate n x)
  | 0 => rfl
  | n + 1 => ⟨z, _, rfl, h, CSS.replicate h n⟩

theorem madeCells_flatten (z : List Value) (n : Nat) : (madeCells z.toArray (n * z.length)).toList = (List.replicate n z).flatten := by
  apply List.ext_getElem?
  intro j
  by_cases hj : j < n * z.length
  · have hz : 0 < z.length := by
      rcases Nat.eq_zero_or_pos z.length with h | h
      · rw [h] at hj; simp at hj
      · exact h
    have h1 : (madeCells z.toArray (n * z.length)).toList[j]? = z[j % z.length]? := by
      have hm : j % z.length < z.length := Nat.mod_lt _ hz
      simp [madeCells, hj, hm]
    rw [h1]
    clear h1
    induction n generalizing j with
    | zero => simp at hj
    | succ n ih =>
      rw [List.replicate_succ, List.flatten_cons]
      rcases Nat.lt_or_ge j z.length with h | h
      · rw [List.getElem?_append_left h, Nat.mod_eq_of_lt h]
      · rw [List.getElem?_append_right h, ← ih (j - z.length) (by rw [Nat.add_mul] at hj; omega), ← Nat.mod_eq_sub_mod h]
  · rw [List.getElem?_eq_none, List.getElem?_eq_none]
    · simp; omega
    · simp [madeCells]; omega

/-- make([]T, n), never written. -/
theorem op_makeZ {α : Type} {E : Enc α} {M M0 : Mut} {w0 : World} {t e : TypeId} {k k' : IntKind} {n : Int} {z : List Value} {x0 : α} {x y : Operand} (ht : P.underlying t = some (.slice e)) (hT : TD P e E.sz E.by_ E.agg z)
    (hz : ∀ M w, E.R M w z x0) (hx : opv fr x = some (.int k n)) (hy : opv fr y = some (.int k' n)) (hr : Rn M0 w0 M w) (h0 : 0 ≤ n) (hb : E.by_ * n.toNat ≤ 140737488351232) (h63 : n ≤ 9223372036854775807)
    (h : ∀ v w', SlOf E M w' v (List.replicate n.toNat x0) → Below w.heap.size w w' → Ψ v w') :
    OP P N ⟨d, .makeSlice t x y, ty, pos, aft, g⟩ fr w Ψ := by
  obtain ⟨i, z', hi, hs, hby, hz', hzc⟩ := hT.info
  have hbi : (i.bytes : Int) * n ≤ 281474976710656 := by
    rw [hby]
    have : ((E.by_ * n.toNat : Nat) : Int) ≤ 140737488351232 := by omega
    rw [Int.natCast_mul, Int.toNat_of_nonneg h0] at this
    omega
  have hrun := run_make (P := P) w t e i z' ht hi hz' k k' n n h0 (Int.le_refl _) hbi h63
  have hbel := below_alloc w (.cells (madeCells z'.cells (n.toNat * i.size)) e)
  refine OP.val (v := .slice (some ⟨w.heap.size, 0, none⟩) n.toNat n.toNat) (w' := w.alloc (.cells (madeCells z'.cells (n.toNat * i.size)) e)) (fun a ha => ?_) (h _ _ ?_ hbel)
  · simp [execOp, ha.eval hx, ha.eval hy, hrun]
  · have hlz : z.length = E.sz := E.len (hz M w)
    have hc := CSS.replicate (hz M (w.alloc (.cells (madeCells z'.cells (n.toNat * i.size)) e))) n.toNat
    have := SlOf.of_row (g := w.heap.size) (cap := n.toNat) (cur := madeCells z'.cells (n.toNat * i.size)) (fz := (0, 0)) (e := e) hc (heap_alloc_new w _) (by
      rw [hzc, hs, ← hlz, madeCells_flatten, List.take_of_length_le (by simp)]) (by simp) (by unfold maxLen; omega) (by rw [List.length_replicate, Nat.mul_comm]; exact hb) (fun p hp => by rw [hr.mb _ (Nat.le_refl _)] at hp; cases hp)
    simpa using this

/-- A place in a row that is being filled. -/
theorem op_indexBox {M : Mut} {b tag len cap : Nat} {cs : List Value} {t e : TypeId} {k : IntKind} {n : Int} {sz by' : Nat} {agg : Bool} {z : List Value} {x i : Operand} (ht : P.underlying t = some (.slice e)) (hT : TD P e sz by' agg z)
    (hx : opv fr x = some (.slice (some ⟨b, 0, none⟩) len cap)) (hi : opv fr i = some (.int k n)) (_hb : Box M w b tag cs e) (h0 : 0 ≤ n ∧ n < len)
    (h : Ψ (.pointer (some ⟨b, n.toNat * sz, none⟩)) w) : OP P N ⟨d, .indexAddr t x i, ty, pos, aft, g⟩ fr w Ψ := by
  refine OP.val (v := .pointer (some ⟨b, n.toNat * sz, none⟩)) (w' := w) (fun a ha => ?_) h
  have hel : P.elem t = e := by simp [Program.elem, ht]
  have hr := run_indexAt_slice (P := P) w t ⟨b, 0, none⟩ len cap k n (by rw [hel]; exact ht)
  rw [hel, if_pos h0] at hr
  simp only [execOp, ha.eval hx, ha.eval hi]
  simp [hr, hT.run_sizeOf (w := w), Addr.add_lit]

theorem op_fieldBox {x : Operand} {b off : Nat} {s : TypeId} {f fo : Nat} (hF : FD P s f fo) (hx : opv fr x = some (.pointer (some ⟨b, off, none⟩))) (h : Ψ (.pointer (some ⟨b, off + fo, none⟩)) w) :
    OP P N ⟨d, .fieldAddr s x f, ty, pos, aft, g⟩ fr w Ψ := op_fieldAddr hF hx (by rw [Addr.add_lit]; exact h)

theorem op_lenv {x : Operand} {a : Option Addr} {n c : Nat} {t e : TypeId} (ht : P.underlying t = some (.slice e)) (hx : opv fr x = some (.slice a n c))
    (h : Ψ (.int .i64 n) w) : OP P N ⟨d, .call ⟨.builtin .len, #[x], #[t]⟩, ty, pos, aft, g⟩ fr w Ψ :=
  OP.val (v := .int .i64 n) (fun a ha => by
    simp [execOp, resolve, invoke, builtin, Builtin.len_, ha.eval hx, run_underlying ht, goInt]) h

/-- copy(dst, src) into a row that is being filled, as long as src. -/
theorem op_copy {α : Type} {E : Enc α} {M M0 : Mut} {w0 : World} {b tag cap : Nat} {cs : List Value} {t e : TypeId} {x y : Operand} {v : Value} {l : List α} (ht : P.underlying t = some (.slice e)) (hE : TE P e E)
    (hx : opv fr x = some (.slice (some ⟨b, 0, none⟩) l.length cap)) (hy : opv fr y = some v) (_hr : Rn M0 w0 M w) (hB : w0.heap.size ≤ b) (hs : SlOf E M w v l)
    (hb : Box M w b tag cs e) (hv : cs.length = l.length * E.sz)
    (h : ∀ w' css, CSS E M w' css l → Box M w' b tag css e → St w0.heap.size (some tag) M w M w' → Ψ (.int .i64 l.length) w') :
    OP P N ⟨d, .call ⟨.builtin .copy, #[x, y], #[t, t]⟩, ty, pos, aft, g⟩ fr w Ψ := by
  obtain ⟨z, hz, hT⟩ := hE
  obtain ⟨a, cap2, f1, f2, f3, f4, f5, f6⟩ := hs.ex
  subst f1
  have hcss : ∃ css, CSS E M w css l ∧ (Builtin.firstCells E.sz l.length (.slice a l.length cap2)).run P w = .ok css.toArray w := by
    cases a with
    | none =>
      have := f4 rfl
      have : l = [] := List.eq_nil_of_length_eq_zero (by omega)
      subst this
      exact ⟨[], rfl, rfl⟩
    | some ad =>
      obtain ⟨css, c1, c2⟩ := CSS.of_elems (f6 ad rfl)
      exact ⟨css, c1, run_firstCells_some (P := P) w E.sz l.length ad l.length cap2 css c1.len (fun j v h => (c2 j v h).1)⟩
  obtain ⟨css, c1, c2⟩ := hcss
  have hst := run_storeCells_at P b 0 e css 0 cs.toArray w hb.heap (by rw [c1.len, ← hv]; simp) c1.one
  have hall : (List.take (0 + 0) cs.toArray.toList ++ css ++ List.drop (0 + 0 + css.length) cs.toArray.toList) = css := by
    rw [c1.len, ← hv]; simp
  rw [hall] at hst
  have hM : M = M.set b (some (0, tag)) := by
    funext k
    unfold Mut.set
    split
    · rename_i hk; subst hk; exact hb.mark
    · rfl
  have hS : St w0.heap.size (some tag) M w M (w.setRow b css.toArray) := by
    have := St.write (M := M) (w := w) (w' := w.setRow b css.toArray) (k := 0) (k' := 0) hB hb.lt hb.mark rfl (Nat.le_refl _) rfl rfl rfl (by simp [World.setRow]) (fun k hk => setRow_other w b k _ hk) (fun off ho => by omega)
    rwa [← hM] at this
  refine OP.val (v := .int .i64 l.length) (w' := w.setRow b css.toArray) (fun a ha => ?_) (h _ css (c1.mono hS.x) ⟨setRow_heap w b _ _ e _ hb.heap, hb.mark⟩ hS)
  simp only [execOp, resolve, invoke, builtin, Sem.run_bind, Sem.run_pure, Result.andThen_ok, List.map_toArray, List.map_cons, List.map_nil, ha.eval hx, ha.eval hy]
  simp [Builtin.copy_, run_underlying ht, Builtin.lenOf, hT.run_sizeOf (w := w), c2, hst, goInt]

/-- A row is filled: it reads as a list from now on. -/
theorem Box.freeze {α : Type} {E : Enc α} {M : Mut} {b tag : Nat} {css : List Value} {e : TypeId} {l : List α} (hb : Box M w b tag css e) (hc : CSS E M w css l) (hby : l.length * E.by_ ≤ 140737488351232) {B : Nat} (hB : B ≤ b) :
    SlOf E (M.set b none) w (.slice (some ⟨b, 0, none⟩) l.length l.length) l ∧ St B (some tag) M w (M.set b none) w := by
  have hst := St.clear (B := B) (w := w) hB hb.mark
  have h63 : l.length ≤ maxLen := by
    have h1 := E.bpos
    have : l.length * 1 ≤ l.length * E.by_ := Nat.mul_le_mul_left _ h1
    unfold maxLen
    omega
  exact ⟨SlOf.of_row (cur := css.toArray) (fz := (0, 0)) (hc.mono hst.x) hb.heap (by rw [← hc.len]; simp) (Nat.le_refl _) h63 hby (fun p hp => by simp [Mut.set] at hp), hst⟩

/-- A closure. -/
theorem op_makeFunc {f : FuncId} {cap : List Operand} {vs : List Value} (hx : opvs fr cap = some vs) (h : Ψ (.func (.func f) #[] vs.toArray) w) : OP P N ⟨d, .makeFunc (.func f) #[] cap.toArray, ty, pos, aft, g⟩ fr w Ψ :=
  OP.val (v := .func (.func f) #[] vs.toArray) (w' := w) (fun a ha => by
    have hm := ha.evals hx
    simp [execOp, Instr.makeFunc, hm]) h

end
end Go.Proofs.Ytocoinkhbjlbhaa
