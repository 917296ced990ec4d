/-
  What memory holds, for the calculus of Kit1: cells that nobody writes any more, encodings of data in cells, slices as lists.
-/
import Derived.Test.YtocoinkhbjlbhaaKit1
import Derived.Laws.AppendOwn
import Derived.Laws.Rows
import Derived.Deep.Slices
namespace Go.Proofs.Ytocoinkhbjlbhaa
open Go Go.RowKit

def I64 (n : Int) : Prop := -9223372036854775808 ≤ n ∧ n ≤ 9223372036854775807

/-- Which cells may still be written: of block b those from an offset on; with a tag that says whose they are. -/
abbrev Mut := Nat → Option (Nat × Nat)

def Cell (M : Mut) (w : World) (a : Addr) (v : Value) : Prop := w.cell? a = some v ∧ ∀ p, M a.block = some p → a.off < p.1

/-- No block beyond the heap is marked. -/
def MB (M : Mut) (w : World) : Prop := ∀ b, w.heap.size ≤ b → M b = none

/-- What was known stays known. -/
structure X (M : Mut) (w : World) (M' : Mut) (w' : World) : Prop where
  cell : ∀ a v, Cell M w a v → Cell M' w' a v

theorem X.refl (M : Mut) (w : World) : X M w M w := ⟨fun _ _ h => h⟩
theorem X.trans {M M' M'' : Mut} {w w' w'' : World} (h : X M w M' w') (k : X M' w' M'' w'') : X M w M'' w'' := ⟨fun a v c => k.cell a v (h.cell a v c)⟩

theorem Cell.lt {M : Mut} {w : World} {a : Addr} {v : Value} (h : Cell M w a v) : a.block < w.heap.size := World.block_lt_of_cell? w a h.1

theorem X.of_below {M : Mut} {w w' : World} (h : Below w.heap.size w w') : X M w M w' :=
  ⟨fun _ _ c => ⟨(h.cell c.lt).trans c.1, c.2⟩⟩

theorem MB.below {M : Mut} {w w' : World} {B : Nat} (h : MB M w) (hb : Below B w w') : MB M w' := fun b h' => h b (Nat.le_trans hb.size h')

/-- A step of memory: M0, w0 are as the call began, M, w as they stand. -/
structure Rn (M0 : Mut) (w0 : World) (M : Mut) (w : World) : Prop where
  bel : Below w0.heap.size w0 w
  old : ∀ b, b < w0.heap.size → M b = M0 b
  mb0 : MB M0 w0
  mb : MB M w

theorem Rn.refl {M : Mut} {w : World} (h : MB M w) : Rn M w M w := ⟨Below.refl _ _, fun _ _ => rfl, h, h⟩
theorem Rn.size {M0 M : Mut} {w0 w : World} (h : Rn M0 w0 M w) : w0.heap.size ≤ w.heap.size := h.bel.size
theorem Rn.below {M0 M : Mut} {w0 w w' : World} (h : Rn M0 w0 M w) (hb : Below w.heap.size w w') : Rn M0 w0 M w' :=
  ⟨h.bel.trans (hb.mono h.size), h.old, h.mb0, h.mb.below hb⟩
/-- At the end only the caller's marks are left. -/
theorem Rn.fin {M0 M : Mut} {w0 w : World} (h : Rn M0 w0 M w) : X M w M0 w :=
  ⟨fun a _ c => ⟨c.1, fun p hp => by
    rcases Nat.lt_or_ge a.block w0.heap.size with hl | hl
    · exact c.2 p ((h.old _ hl).trans hp)
    · rw [h.mb0 _ hl] at hp; cases hp⟩⟩

/-! ### Encodings -/

structure Enc (α : Type) where
  sz : Nat
  by_ : Nat
  agg : Bool
  R : Mut → World → List Value → α → Prop
  pos : 0 < sz
  bpos : 0 < by_
  one1 : agg = false → sz = 1
  len : ∀ {M w cs x}, R M w cs x → cs.length = sz
  one : ∀ {M w cs x}, R M w cs x → ∀ c ∈ cs, c.oneCell' = true
  mono : ∀ {M w M' w' cs x}, R M w cs x → X M w M' w' → R M' w' cs x

/-- The value of some cells. -/
def mkv (agg : Bool) (cs : List Value) : Value := if agg then .agg cs.toArray else cs.headD undef

def Enc.V {α : Type} (E : Enc α) (M : Mut) (w : World) (v : Value) (x : α) : Prop := ∃ cs, E.R M w cs x ∧ v = mkv E.agg cs

theorem Enc.V.mono {α : Type} {E : Enc α} {M M' : Mut} {w w' : World} {v : Value} {x : α} (h : E.V M w v x) (hx : X M w M' w') : E.V M' w' v x :=
  let ⟨cs, h1, h2⟩ := h; ⟨cs, E.mono h1 hx, h2⟩

theorem cells_of_one {c : Value} (h : c.oneCell' = true) : c.cells = #[c] := by cases c <;> first | rfl | simp [Value.oneCell'] at h

theorem mkv_cells {α : Type} {E : Enc α} {M : Mut} {w : World} {cs : List Value} {x : α} (h : E.R M w cs x) : (mkv E.agg cs).cells = cs.toArray := by
  have hl := E.len h
  cases ha : E.agg
  · rw [E.one1 ha] at hl
    match cs, hl with
    | [c], _ => simp [mkv, cells_of_one (E.one h c (by simp))]
  · simp [mkv, Value.cells]

/-- At the address lie the cells of x. -/
def Elem {α : Type} (E : Enc α) (M : Mut) (w : World) (ad : Addr) (x : α) : Prop := ∃ cs, E.R M w cs x ∧ ∀ j c, cs[j]? = some c → Cell M w (ad.add j) c

theorem Elem.mono {α : Type} {E : Enc α} {M M' : Mut} {w w' : World} {ad : Addr} {x : α} (h : Elem E M w ad x) (hx : X M w M' w') : Elem E M' w' ad x :=
  let ⟨cs, h1, h2⟩ := h; ⟨cs, E.mono h1 hx, fun j c hc => hx.cell _ _ (h2 j c hc)⟩

/-- A slice value that reads as the list l. -/
structure SlOf {α : Type} (E : Enc α) (M : Mut) (w : World) (v : Value) (l : List α) : Prop where
  ex : ∃ a cap, v = .slice a l.length cap ∧ l.length ≤ cap ∧ cap ≤ maxLen ∧ (a = none → cap = 0) ∧ l.length * E.by_ ≤ 140737488351232 ∧
    ∀ ad, a = some ad → ∀ (i : Nat) (hi : i < l.length), Elem E M w (ad.add (i * E.sz)) l[i]

theorem SlOf.mono {α : Type} {E : Enc α} {M M' : Mut} {w w' : World} {v : Value} {l : List α} (h : SlOf E M w v l) (hx : X M w M' w') : SlOf E M' w' v l := by
  obtain ⟨a, cap, h1, h2, h3, h4, h5, h6⟩ := h.ex
  exact ⟨a, cap, h1, h2, h3, h4, h5, fun ad e i hi => (h6 ad e i hi).mono hx⟩

theorem SlOf.nil {α : Type} (E : Enc α) (M : Mut) (w : World) : SlOf E M w (.slice none 0 0) ([] : List α) :=
  ⟨none, 0, rfl, Nat.le_refl _, Nat.zero_le _, fun _ => rfl, by simp, fun _ e => by cases e⟩

theorem SlOf.le {α : Type} {E : Enc α} {M : Mut} {w : World} {v : Value} {l : List α} (h : SlOf E M w v l) : l.length ≤ 9223372036854775807 := by
  obtain ⟨a, cap, h1, h2, h3, _⟩ := h.ex
  unfold maxLen at h3
  omega

theorem SlOf.bytes {α : Type} {E : Enc α} {M : Mut} {w : World} {v : Value} {l : List α} (h : SlOf E M w v l) : l.length * E.by_ ≤ 140737488351232 := by
  obtain ⟨a, cap, h1, h2, h3, h4, h5, _⟩ := h.ex
  exact h5

/-- A number. -/
def eN (k : IntKind) : Enc Int where
  sz := 1
  by_ := (k.bits + 7) / 8
  agg := false
  R := fun _ _ cs n => cs = [.int k n] ∧ (k = .i64 → I64 n) ∧ (k = .u8 → 0 ≤ n ∧ n ≤ 255)
  pos := by decide
  bpos := by cases k <;> decide
  one1 := fun _ => rfl
  len := fun h => by rw [h.1]; rfl
  one := fun h c hc => by rw [h.1] at hc; simp at hc; subst hc; rfl
  mono := fun h _ => h

/-- An int. -/
abbrev eI : Enc Int := eN .i64

theorem eI_V {M : Mut} {w : World} {v : Value} {n : Int} : eI.V M w v n ↔ v = .int .i64 n ∧ I64 n := by
  constructor
  · rintro ⟨cs, ⟨rfl, h, _⟩, rfl⟩; exact ⟨rfl, h rfl⟩
  · rintro ⟨rfl, h⟩; exact ⟨_, ⟨rfl, fun _ => h, fun e => by cases e⟩, rfl⟩

/-- A slice. -/
def eSl {α : Type} (E : Enc α) : Enc (List α) where
  sz := 1
  by_ := 24
  agg := false
  R := fun M w cs l => ∃ v, cs = [v] ∧ SlOf E M w v l
  pos := by decide
  bpos := by decide
  one1 := fun _ => rfl
  len := fun ⟨_, h, _⟩ => by rw [h]; rfl
  one := fun ⟨v, h, hs⟩ c hc => by
    obtain ⟨a, cap, h1, _⟩ := hs.ex
    rw [h] at hc
    simp at hc
    subst hc h1
    rfl
  mono := fun ⟨v, h, hs⟩ hx => ⟨v, h, hs.mono hx⟩

theorem eSl_V {α : Type} {E : Enc α} {M : Mut} {w : World} {v : Value} {l : List α} : (eSl E).V M w v l ↔ SlOf E M w v l := by
  constructor
  · rintro ⟨cs, ⟨u, rfl, h⟩, rfl⟩; exact h
  · exact fun h => ⟨[v], ⟨v, rfl, h⟩, rfl⟩

/-- A string, as its bytes. -/
def eStr : Enc ByteArray where
  sz := 1
  by_ := 16
  agg := false
  R := fun _ _ cs s => cs = [.string s] ∧ s.size ≤ 140737488351232
  pos := by decide
  bpos := by decide
  one1 := fun _ => rfl
  len := fun h => by rw [h.1]; rfl
  one := fun h c hc => by rw [h.1] at hc; simp at hc; subst hc; rfl
  mono := fun h _ => h

theorem eStr_V {M : Mut} {w : World} {v : Value} {s : ByteArray} : eStr.V M w v s ↔ v = .string s ∧ s.size ≤ 140737488351232 := by
  constructor
  · rintro ⟨cs, ⟨rfl, h⟩, rfl⟩; exact ⟨rfl, h⟩
  · rintro ⟨rfl, h⟩; exact ⟨_, ⟨rfl, h⟩, rfl⟩

/-- One behind the other, as a struct's cells. -/
def Enc.app {α β : Type} (E : Enc α) (F : Enc β) : Enc (α × β) where
  sz := E.sz + F.sz
  by_ := E.by_ + F.by_
  agg := true
  R := fun M w cs x => ∃ a b, cs = a ++ b ∧ E.R M w a x.1 ∧ F.R M w b x.2
  pos := Nat.lt_of_lt_of_le E.pos (Nat.le_add_right _ _)
  bpos := Nat.lt_of_lt_of_le E.bpos (Nat.le_add_right _ _)
  one1 := fun h => by cases h
  len := fun ⟨a, b, h, h1, h2⟩ => by rw [h, List.length_append, E.len h1, F.len h2]
  one := fun ⟨a, b, h, h1, h2⟩ c hc => by
    rw [h, List.mem_append] at hc
    rcases hc with hc | hc
    · exact E.one h1 c hc
    · exact F.one h2 c hc
  mono := fun ⟨a, b, h, h1, h2⟩ hx => ⟨a, b, h, E.mono h1 hx, F.mono h2 hx⟩

/-- Other data in the same cells. -/
def Enc.via {α β : Type} (E : Enc α) (g : β → α) (by' : Nat) (hb : 0 < by') : Enc β where
  sz := E.sz
  by_ := by'
  agg := E.agg
  R := fun M w cs x => E.R M w cs (g x)
  pos := E.pos
  bpos := hb
  one1 := E.one1
  len := fun h => E.len h
  one := fun h => E.one h
  mono := fun h hx => E.mono h hx

/-! ### What the program's tables say of a type -/

def aggD : TypeDesc → Bool
  | .struct _ | .array _ _ => true
  | _ => false

structure TD (P : Program) (t : TypeId) (sz by' : Nat) (agg : Bool) (z : List Value) : Prop where
  info : ∃ i z', P.info? t = some i ∧ i.size = sz ∧ i.bytes = by' ∧ i.zero = some z' ∧ z'.cells = z.toArray
  under : ∃ d, P.underlying t = some d ∧ aggD d = agg

/-- The type's cells are those of the encoding. -/
def TE {α : Type} (P : Program) (t : TypeId) (E : Enc α) : Prop := ∃ z, z.length = E.sz ∧ TD P t E.sz E.by_ E.agg z

theorem TD.mk' {P : Program} {t : TypeId} {sz by' : Nat} {agg : Bool} {z : Value} {d : TypeDesc}
    (h : (P.info? t).map (fun i => (i.size, i.bytes, i.zero)) = some (sz, by', some z)) (hu : P.underlying t = some d)
    (ha : aggD d = agg) : TD P t sz by' agg z.cells.toList := by
  cases hi : P.info? t with
  | none => simp [hi] at h
  | some i =>
    simp [hi] at h
    exact ⟨⟨i, z, hi, h.1, h.2.1, h.2.2, by simp⟩, d, hu, ha⟩

section
variable {P : Program} {w : World}

theorem TD.run_sizeOf {t : TypeId} {sz by' : Nat} {agg : Bool} {z : List Value} (h : TD P t sz by' agg z) : (sizeOf t).run P w = .ok sz w := by
  obtain ⟨i, z', hi, hs, _⟩ := h.info
  simp [sizeOf, typeInfo, hi, hs]
theorem TD.run_isAgg {t : TypeId} {sz by' : Nat} {agg : Bool} {z : List Value} (h : TD P t sz by' agg z) : (isAgg t).run P w = .ok agg w := by
  obtain ⟨d, hd, ha⟩ := h.under
  unfold isAgg
  rw [Sem.run_bind, run_underlying hd w]
  subst ha
  cases d <;> simp [aggD]
theorem TD.run_typeInfo {t : TypeId} {sz by' : Nat} {agg : Bool} {z : List Value} (h : TD P t sz by' agg z) : ∃ i z', (typeInfo t).run P w = .ok i w ∧ i.size = sz ∧ i.bytes = by' ∧ i.zero = some z' ∧ z'.cells = z.toArray := by
  obtain ⟨i, z', hi, hs⟩ := h.info
  exact ⟨i, z', by simp [typeInfo, hi], hs⟩

theorem add_add' (a : Addr) (m n : Nat) : (a.add m).add n = a.add (m + n) := by
  unfold Addr.add
  by_cases h1 : m = 0 <;> by_cases h2 : n = 0 <;> simp [h1, h2]
  omega

theorem run_loadElem {α : Type} {E : Enc α} {M : Mut} {t : TypeId} {ad : Addr} {x : α} (ht : TE P t E) (h : Elem E M w ad x) :
    ∃ v, (Instr.loadAt t (.pointer (some ad))).run P w = .ok v w ∧ E.V M w v x := by
  obtain ⟨z, hz, ht⟩ := ht
  obtain ⟨cs, hR, hc⟩ := h
  have hl := E.len hR
  refine ⟨_, ?_, cs, hR, rfl⟩
  have hcell : ∀ j v, cs[j]? = some v → w.cell? (ad.add j) = some v := fun j v hv => (hc j v hv).1
  cases ha : E.agg
  · rw [E.one1 ha] at hl
    match cs, hl with
    | [c], _ =>
      have h0 : w.cell? ad = some c := by simpa [Addr.add] using hcell 0 c rfl
      simp [Instr.loadAt, Instr.sureAddr, loadVar, ht.run_isAgg (w := w), ha, h0, mkv]
  · have := run_loadCells_list (P := P) w ad cs hcell
    rw [hl] at this
    simp [Instr.loadAt, Instr.sureAddr, loadVar, ht.run_isAgg (w := w), ht.run_sizeOf (w := w), ha, this, mkv]

end
end Go.Proofs.Ytocoinkhbjlbhaa
