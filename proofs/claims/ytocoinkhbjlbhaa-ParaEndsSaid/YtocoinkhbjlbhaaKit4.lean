/-
  The laws of the operations that make or write memory, for the calculus of Kit1.
-/
import Derived.Test.YtocoinkhbjlbhaaKit3
import Derived.Laws.OwnMore
import Derived.Laws.MakeOwn
namespace Go.Proofs.Ytocoinkhbjlbhaa
open Go Go.RowKit

/-! ### Cells of a list, one element behind the other -/

def CSS {α : Type} (E : Enc α) (M : Mut) (w : World) : List Value → List α → Prop
  | css, [] => css = []
  | css, x :: l => ∃ a b, css = a ++ b ∧ E.R M w a x ∧ CSS E M w b l

section
variable {α : Type} {E : Enc α} {M M' : Mut} {w w' : World}

theorem CSS.append : ∀ {l l2 : List α} {a b : List Value}, CSS E M w a l → CSS E M w b l2 → CSS E M w (a ++ b) (l ++ l2)
  | [], _, a, b, h, h2 => by cases h; exact h2
  | x :: l, l2, a, b, ⟨c, d, e, hR, hr⟩, h2 => ⟨c, d ++ b, by rw [e, List.append_assoc], hR, hr.append h2⟩

theorem CSS.mono (hx : X M w M' w') : ∀ {l : List α} {a : List Value}, CSS E M w a l → CSS E M' w' a l
  | [], _, h => h
  | _ :: _, _, ⟨c, d, e, hR, hr⟩ => ⟨c, d, e, E.mono hR hx, hr.mono hx⟩

theorem CSS.len : ∀ {l : List α} {a : List Value}, CSS E M w a l → a.length = l.length * E.sz
  | [], _, h => by cases h; simp
  | _ :: l, _, ⟨c, d, e, hR, hr⟩ => by rw [e, List.length_append, E.len hR, hr.len, List.length_cons, Nat.add_mul]; omega

theorem CSS.one : ∀ {l : List α} {a : List Value}, CSS E M w a l → ∀ c ∈ a, c.oneCell' = true
  | [], _, h, c, hc => by cases h; cases hc
  | _ :: _, _, ⟨_, _, e, hR, hr⟩, c, hc => by
    rw [e, List.mem_append] at hc
    rcases hc with hc | hc
    · exact E.one hR c hc
    · exact hr.one c hc

theorem CSS.get : ∀ {l : List α} {a : List Value}, CSS E M w a l → ∀ (i : Nat) (hi : i < l.length), ∃ cs, E.R M w cs l[i] ∧ ∀ j c, cs[j]? = some c → a[i * E.sz + j]? = some c
  | [], _, _, _, hi => by simp at hi
  | _ :: l, _, ⟨c, d, e, hR, hr⟩, 0, _ => by
    refine ⟨c, hR, fun j u hj => ?_⟩
    have hl : j < c.length := (List.getElem?_eq_some_iff.1 hj).1
    rw [e]
    simp only [Nat.zero_mul, Nat.zero_add]
    rw [List.getElem?_append_left hl]
    exact hj
  | _ :: l, _, ⟨c, d, e, hR, hr⟩, i + 1, hi => by
    obtain ⟨cs, h1, h2⟩ := hr.get i (by simpa using hi)
    refine ⟨cs, by simpa using h1, fun j u hj => ?_⟩
    have := h2 j u hj
    rw [e, List.getElem?_append_right (by rw [E.len hR, Nat.add_mul]; omega)]
    rw [E.len hR]
    rw [show (i + 1) * E.sz + j - E.sz = i * E.sz + j by rw [Nat.add_mul]; omega]
    exact this

theorem CSS.of_elems : ∀ {l : List α} {ad : Addr}, (∀ (i : Nat) (hi : i < l.length), Elem E M w (ad.add (i * E.sz)) l[i]) →
    ∃ css, CSS E M w css l ∧ ∀ j c, css[j]? = some c → Cell M w (ad.add j) c
  | [], _, _ => ⟨[], rfl, fun j c h => by simp at h⟩
  | x :: l, ad, h => by
    have h0 : Elem E M w (ad.add (0 * E.sz)) x := h 0 (by simp)
    obtain ⟨cs, hR, hc⟩ := h0
    simp only [Nat.zero_mul] at hc
    obtain ⟨css, h1, h2⟩ := CSS.of_elems (l := l) (ad := ad.add E.sz) (fun i hi => by
      have := h (i + 1) (by simpa using hi)
      rw [add_add', show E.sz + i * E.sz = (i + 1) * E.sz by rw [Nat.add_mul]; omega]
      simpa using this)
    refine ⟨cs ++ css, ⟨cs, css, rfl, hR, h1⟩, fun j c hj => ?_⟩
    rcases Nat.lt_or_ge j cs.length with hl | hl
    · rw [List.getElem?_append_left hl] at hj
      have := hc j c hj
      rwa [add_add', Nat.zero_add] at this
    · rw [List.getElem?_append_right hl] at hj
      have hk := h2 _ c hj
      rw [E.len hR] at hl
      rw [add_add', E.len hR, show E.sz + (j - E.sz) = j by omega] at hk
      exact hk

theorem CSS.elems {l : List α} {css : List Value} {ad : Addr} (h : CSS E M w css l) (hc : ∀ j c, css[j]? = some c → Cell M w (ad.add j) c) (i : Nat) (hi : i < l.length) :
    Elem E M w (ad.add (i * E.sz)) l[i] := by
  obtain ⟨cs, h1, h2⟩ := h.get i hi
  exact ⟨cs, h1, fun j c hj => by rw [add_add']; exact hc _ _ (h2 j c hj)⟩

/-- A slice over a part of a row that nobody writes. -/
theorem SlOf.of_row_at {l : List α} {css : List Value} {g off cap : Nat} {e : TypeId} {cur : Array Value} {fz : Nat × Nat} (h : CSS E M w css l) (hg : w.heap[g]? = some (.cells cur e fz))
    (hcur : (cur.toList.drop off).take (l.length * E.sz) = css) (hcap : l.length ≤ cap) (hm : cap ≤ maxLen) (hb : l.length * E.by_ ≤ 140737488351232)
    (hM : ∀ p, M g = some p → off + l.length * E.sz ≤ p.1) : SlOf E M w (.slice (some ⟨g, off, none⟩) l.length cap) l := by
  refine ⟨some ⟨g, off, none⟩, cap, rfl, hcap, hm, (fun h => by cases h), hb, fun ad e i hi => ?_⟩
  cases e
  refine h.elems (fun j c hj => ?_) i hi
  have hl : j < css.length := (List.getElem?_eq_some_iff.1 hj).1
  rw [h.len] at hl
  rw [Addr.add_lit]
  refine ⟨?_, fun p hp => Nat.lt_of_lt_of_le (Nat.add_lt_add_left hl off) (hM p hp)⟩
  rw [cell_of_row w g _ cur _ fz hg]
  rw [← hcur, List.getElem?_take, if_pos hl, List.getElem?_drop] at hj
  simpa using hj

/-- A slice over a row of cells that nobody writes. -/
theorem SlOf.of_row {l : List α} {css : List Value} {g cap : Nat} {e : TypeId} {cur : Array Value} {fz : Nat × Nat} (h : CSS E M w css l) (hg : w.heap[g]? = some (.cells cur e fz))
    (hcur : cur.toList.take (l.length * E.sz) = css) (hcap : l.length ≤ cap) (hm : cap ≤ maxLen) (hb : l.length * E.by_ ≤ 140737488351232)
    (hM : ∀ p, M g = some p → l.length * E.sz ≤ p.1) : SlOf E M w (.slice (some ⟨g, 0, none⟩) l.length cap) l := by
  refine ⟨some ⟨g, 0, none⟩, cap, rfl, hcap, hm, (fun h => by cases h), hb, fun ad e i hi => ?_⟩
  cases e
  refine h.elems (fun j c hj => ?_) i hi
  have hl : j < css.length := (List.getElem?_eq_some_iff.1 hj).1
  rw [h.len] at hl
  rw [Addr.add_lit, Nat.zero_add]
  refine ⟨?_, fun p hp => Nat.lt_of_lt_of_le hl (hM p hp)⟩
  rw [cell_of_row w g j cur _ fz hg]
  rw [← hcur, List.getElem?_take, if_pos hl] at hj
  simpa using hj

end

/-! ### Steps -/

def Mut.set (M : Mut) (b : Nat) (p : Option (Nat × Nat)) : Mut := fun k => if k = b then p else M k

/-- A step of memory: what becomes of the marks and the world; T: the tag under which something was written. -/
structure St (B : Nat) (T : Option Nat) (M : Mut) (w : World) (M' : Mut) (w' : World) : Prop where
  x : X M w M' w'
  mb : MB M w → MB M' w'
  old : ∀ b, b < B → M' b = M b
  bel : Below B w w'
  keep : ∀ b p, M b = some p → T ≠ some p.2 → b < w.heap.size → M' b = some p ∧ w'.heap[b]? = w.heap[b]?

theorem Rn.st {M0 M M' : Mut} {w0 w w' : World} {T : Option Nat} (h : Rn M0 w0 M w) (s : St w0.heap.size T M w M' w') : Rn M0 w0 M' w' :=
  ⟨h.bel.trans s.bel, fun b hb => (s.old b hb).trans (h.old b hb), h.mb0, s.mb h.mb⟩

theorem St.of_below {M : Mut} {w w' : World} {B : Nat} (hB : B ≤ w.heap.size) (h : Below w.heap.size w w') : St B none M w M w' :=
  ⟨X.of_below h, fun m => m.below h, fun _ _ => rfl, h.mono hB, fun _ _ hp _ hb => ⟨hp, h.block _ hb⟩⟩

/-- A call's or an allocation's step. -/
theorem Rn.step {M0 M : Mut} {w0 w w' : World} (h : Rn M0 w0 M w) (hb : Below w.heap.size w w') : St w0.heap.size none M w M w' := St.of_below h.size hb

/-- A variable in memory, or a row, that is written. -/
structure Box (M : Mut) (w : World) (b tag : Nat) (cs : List Value) (e : TypeId) : Prop where
  heap : w.heap[b]? = some (.cells cs.toArray e (0, 0))
  mark : M b = some (0, tag)

theorem Box.lt {M : Mut} {w : World} {b tag : Nat} {cs : List Value} {e : TypeId} (h : Box M w b tag cs e) : b < w.heap.size := (Array.getElem?_eq_some_iff.1 h.heap).1

theorem Box.st {M M' : Mut} {w w' : World} {b tag B : Nat} {T : Option Nat} {cs : List Value} {e : TypeId} (h : Box M w b tag cs e) (s : St B T M w M' w') (ht : T ≠ some tag) : Box M' w' b tag cs e :=
  ⟨(s.keep b _ h.mark ht h.lt).2.trans h.heap, (s.keep b _ h.mark ht h.lt).1⟩

/-- A slice that may be appended to: it is full, or its spare room is the call's own. -/
structure Grow (B : Nat) (M : Mut) (w : World) (v : Value) (n sz tag : Nat) (e : TypeId) : Prop where
  ex : (∃ a, v = .slice a n n) ∨ ∃ g off cap cur, v = .slice (some ⟨g, off, none⟩) n cap ∧ B ≤ g ∧ w.heap[g]? = some (.cells cur e (0, 0)) ∧ n ≤ cap ∧ cap ≤ maxLen ∧ cur.size = off + cap * sz ∧ M g = some (off + n * sz, tag)

theorem Grow.nil {B : Nat} {M : Mut} {w : World} {sz tag : Nat} {e : TypeId} : Grow B M w (.slice none 0 0) 0 sz tag e := ⟨.inl ⟨none, rfl⟩⟩

theorem Grow.st {B : Nat} {M M' : Mut} {w w' : World} {v : Value} {n sz tag : Nat} {e : TypeId} {T : Option Nat} (h : Grow B M w v n sz tag e) (s : St B T M w M' w') (ht : T ≠ some tag) : Grow B M' w' v n sz tag e := by
  rcases h.ex with h | ⟨g, off, cap, cur, h1, h2, h3, h4, h5, h6, h7⟩
  · exact ⟨.inl h⟩
  · have hl := (Array.getElem?_eq_some_iff.1 h3).1
    obtain ⟨k1, k2⟩ := s.keep g _ h7 ht hl
    exact ⟨.inr ⟨g, off, cap, cur, h1, h2, k2.trans h3, h4, h5, h6, k1⟩⟩

/-- A new block, under a mark or none. -/
theorem St.alloc {M : Mut} {w : World} {B : Nat} (hB : B ≤ w.heap.size) (hm : MB M w) (o : Obj) (p : Option (Nat × Nat)) {w' : World} (hw : w'.heap = w.heap.push o) (h1 : w'.os = w.os) (h2 : w'.tape = w.tape) (h3 : w'.output = w.output) :
    St B none M w (M.set w.heap.size p) w' := by
  have hold : ∀ k, k < w.heap.size → w'.heap[k]? = w.heap[k]? := fun k hk => by rw [hw, Array.getElem?_push, if_neg (by omega)]
  have hbel : Below w.heap.size w w' := ⟨h1, h2, h3, by rw [hw]; simp, hold⟩
  refine ⟨⟨fun a v c => ?_⟩, fun _ b hb => ?_, fun b hb => ?_, hbel.mono hB, fun b q hq _ hb => ?_⟩
  · have hl := c.lt
    refine ⟨(hbel.cell hl).trans c.1, fun q hq => c.2 q ?_⟩
    simpa [Mut.set, Nat.ne_of_lt hl] using hq
  · rw [hw] at hb
    simp at hb
    unfold Mut.set
    rw [if_neg (by omega)]
    exact hm b (by omega)
  · unfold Mut.set
    rw [if_neg (by omega)]
  · refine ⟨?_, hold b hb⟩
    unfold Mut.set
    rw [if_neg (by omega)]
    exact hq

/-- Blocks that are marked under one tag are written. -/
theorem St.write {M M' : Mut} {w w' : World} {B g tag k k' : Nat} (hB : B ≤ g) (hg : g < w.heap.size) (hM : M g = some (k, tag)) (hM' : M' = M.set g (some (k', tag))) (hk : k ≤ k')
    (h1 : w'.os = w.os) (h2 : w'.tape = w.tape) (h3 : w'.output = w.output) (hs : w'.heap.size = w.heap.size) (ho : ∀ b, b ≠ g → w'.heap[b]? = w.heap[b]?)
    (hc : ∀ off, off < k → w'.cell? ⟨g, off, none⟩ = w.cell? ⟨g, off, none⟩) : St B (some tag) M w M' w' := by
  subst hM'
  refine ⟨⟨fun a v c => ?_⟩, fun hm b hb => ?_, fun b hb => ?_, ⟨h1, h2, h3, by omega, fun b hb => ho b (by omega)⟩, fun b q hq hT hb => ?_⟩
  · by_cases e : a.block = g
    · have hlt := c.2 _ (by rw [e]; exact hM)
      have hsp : a.spot = none := World.cell?_spot c.1
      obtain ⟨ab, ao, asp⟩ := a
      simp only at e hlt hsp
      subst e hsp
      refine ⟨(hc _ hlt).trans c.1, fun p hp => ?_⟩
      simp [Mut.set] at hp
      subst hp
      exact Nat.lt_of_lt_of_le hlt hk
    · refine ⟨(World.cell?_of_block (ho _ e)).trans c.1, fun p hp => c.2 p ?_⟩
      simpa [Mut.set, e] using hp
  · unfold Mut.set
    rw [if_neg (by omega)]
    exact hm b (by omega)
  · unfold Mut.set
    rw [if_neg (by omega)]
  · have hne : b ≠ g := fun e => by
      subst e
      rw [hM] at hq
      cases hq
      exact hT rfl
    refine ⟨?_, ho b hne⟩
    unfold Mut.set
    rw [if_neg hne]
    exact hq

/-- Marks are given up: nobody writes the block any more. -/
theorem St.clear {M : Mut} {w : World} {B g k tag : Nat} (hB : B ≤ g) (hM : M g = some (k, tag)) : St B (some tag) M w (M.set g none) w := by
  refine ⟨⟨fun a v c => ⟨c.1, fun p hp => ?_⟩⟩, fun hm b hb => ?_, fun b hb => ?_, Below.refl _ _, fun b q hq hT _ => ⟨?_, rfl⟩⟩
  · unfold Mut.set at hp
    split at hp
    · cases hp
    · exact c.2 p hp
  · unfold Mut.set
    split
    · rfl
    · exact hm b hb
  · unfold Mut.set
    rw [if_neg (by omega)]
  · have hne : b ≠ g := fun e => by
      subst e
      rw [hM] at hq
      cases hq
      exact hT rfl
    unfold Mut.set
    rw [if_neg hne]
    exact hq

theorem St.trans {B : Nat} {T : Option Nat} {M M' M'' : Mut} {w w' w'' : World} (h : St B T M w M' w') (k : St B T M' w' M'' w'') : St B T M w M'' w'' :=
  ⟨h.x.trans k.x, fun m => k.mb (h.mb m), fun b hb => (k.old b hb).trans (h.old b hb), h.bel.trans k.bel, fun b p hp hT hb => by
    obtain ⟨h1, h2⟩ := h.keep b p hp hT hb
    obtain ⟨k1, k2⟩ := k.keep b p h1 hT (Nat.lt_of_lt_of_le hb h.bel.size)
    exact ⟨k1, k2.trans h2⟩⟩

theorem St.weak {B : Nat} {T : Option Nat} {M M' : Mut} {w w' : World} (h : St B none M w M' w') : St B T M w M' w' :=
  ⟨h.x, h.mb, h.old, h.bel, fun b p hp _ hb => h.keep b p hp (by simp) hb⟩

/-- A step in which nothing that was there is written. -/
structure UpM (M : Mut) (w : World) (M' : Mut) (w' : World) : Prop where
  bel : Below w.heap.size w w'
  old : ∀ b, b < w.heap.size → M' b = M b
  mb : MB M w → MB M' w'

theorem UpM.refl (M : Mut) (w : World) : UpM M w M w := ⟨Below.refl _ _, fun _ _ => rfl, fun h => h⟩
theorem UpM.of_below {M : Mut} {w w' : World} (h : Below w.heap.size w w') : UpM M w M w' := ⟨h, fun _ _ => rfl, fun m => m.below h⟩
theorem UpM.trans {M M' M'' : Mut} {w w' w'' : World} (h : UpM M w M' w') (k : UpM M' w' M'' w'') : UpM M w M'' w'' :=
  ⟨h.bel.trans (k.bel.mono h.bel.size), fun b hb => (k.old b (Nat.lt_of_lt_of_le hb h.bel.size)).trans (h.old b hb), fun m => k.mb (h.mb m)⟩
theorem UpM.x {M M' : Mut} {w w' : World} (h : UpM M w M' w') : X M w M' w' :=
  ⟨fun _ _ c => ⟨(h.bel.cell c.lt).trans c.1, fun p hp => c.2 p ((h.old _ c.lt).symm.trans hp)⟩⟩
theorem UpM.st {M M' : Mut} {w w' : World} (h : UpM M w M' w') {B : Nat} (hB : B ≤ w.heap.size) : St B none M w M' w' :=
  ⟨h.x, h.mb, fun b hb => h.old b (Nat.lt_of_lt_of_le hb hB), h.bel.mono hB, fun b _ hp _ hb => ⟨(h.old b hb).trans hp, h.bel.block b hb⟩⟩
theorem Rn.up {M0 M M' : Mut} {w0 w w' : World} (h : Rn M0 w0 M w) (s : UpM M w M' w') : Rn M0 w0 M' w' := h.st (s.st h.size)

/-- A new block, under a mark or none. -/
theorem UpM.alloc {M : Mut} {w : World} (o : Obj) (p : Option (Nat × Nat)) : UpM M w (M.set w.heap.size p) (w.alloc o) := by
  refine ⟨(Below.refl _ _).alloc (Nat.le_refl _) o, fun b hb => ?_, fun hm b hb => ?_⟩
  · unfold Mut.set
    rw [if_neg (by omega)]
  · simp at hb
    unfold Mut.set
    rw [if_neg (by omega)]
    exact hm b (by omega)

theorem Box.up {M M' : Mut} {w w' : World} {b tag : Nat} {cs : List Value} {e : TypeId} (h : Box M w b tag cs e) (s : UpM M w M' w') : Box M' w' b tag cs e :=
  ⟨(s.bel.block b h.lt).trans h.heap, (s.old b h.lt).trans h.mark⟩

/-! ### append -/

section
variable {P : Program} {w : World}

/-- The boundary between what is there and what is new. -/
theorem grown_row {α : Type} {E : Enc α} {M M0 : Mut} {w0 : World} (hr : Rn M0 w0 M w) {css css2 : List Value} {l l2 : List α} (h1 : CSS E M w css l) (h2 : CSS E M w css2 l2) {e : TypeId} {z : Array Value} {tag cap : Nat}
    (hz : z.size = E.sz) (hcap : l.length + l2.length ≤ cap) (hm : cap ≤ maxLen) (hb : (l.length + l2.length) * E.by_ ≤ 140737488351232) :
    ∃ M', SlOf E M' (w.drew.alloc (.cells (css.toArray ++ css2.toArray ++ Builtin.zeroCells z (cap - (l.length + l2.length))) e)) (.slice (some ⟨w.heap.size, 0, none⟩) (l.length + l2.length) cap) (l ++ l2) ∧
      Grow w0.heap.size M' (w.drew.alloc (.cells (css.toArray ++ css2.toArray ++ Builtin.zeroCells z (cap - (l.length + l2.length))) e)) (.slice (some ⟨w.heap.size, 0, none⟩) (l.length + l2.length) cap) (l ++ l2).length E.sz tag e ∧
      St w0.heap.size none M w M' (w.drew.alloc (.cells (css.toArray ++ css2.toArray ++ Builtin.zeroCells z (cap - (l.length + l2.length))) e)) := by
  have hlen : (l ++ l2).length = l.length + l2.length := List.length_append
  have hst := St.alloc (M := M) (w := w) (B := w0.heap.size) hr.size hr.mb (.cells (css.toArray ++ css2.toArray ++ Builtin.zeroCells z (cap - (l.length + l2.length))) e) (some ((l.length + l2.length) * E.sz, tag))
    (w' := w.drew.alloc (.cells (css.toArray ++ css2.toArray ++ Builtin.zeroCells z (cap - (l.length + l2.length))) e)) rfl rfl rfl rfl
  refine ⟨_, ?_, ?_, hst⟩
  · have hcs := (h1.append h2).mono hst.x
    have := SlOf.of_row (g := w.heap.size) (cap := cap) (e := e) (cur := css.toArray ++ css2.toArray ++ Builtin.zeroCells z (cap - (l.length + l2.length))) (fz := (0, 0)) hcs
      (heap_alloc_new w.drew _) (by
        rw [← hcs.len]
        simp only [Array.toList_append]
        exact List.take_left) (by rw [hlen]; exact hcap) hm (by rw [hlen]; exact hb) (fun p hp => by
          simp [Mut.set] at hp
          subst hp
          simp)
    rw [hlen] at this
    exact this
  · refine ⟨.inr ⟨w.heap.size, 0, cap, _, by rw [hlen], hr.size, heap_alloc_new w.drew _, by rw [hlen]; exact hcap, hm, ?_, ?_⟩⟩
    · simp only [Array.size_append, List.size_toArray, size_zeroCells, hz, h1.len, h2.len, ← Nat.add_mul, Nat.zero_add]
      congr 1
      omega
    · simp [Mut.set]

theorem run_append_room_at (w : World) (t ty e : TypeId) (i : TypeInfo) (ht : P.underlying t = some (.slice e)) (hi : P.info? e = some i)
    (g off sLen sCap : Nat) (cur : Array Value) (hg : w.heap[g]? = some (.cells cur e (0, 0)))
    (a : Addr) (m c : Nat) (news : List Value) (hl : news.length = m * i.size) (hnews : ∀ j u, news[j]? = some u → w.cell? (a.add j) = some u) (h1 : ∀ u ∈ news, u.oneCell' = true)
    (hroom : sLen + m ≤ sCap) (hfit : off + sLen * i.size + news.length ≤ cur.size) :
    (Builtin.append_ #[t, t] ty #[.slice (some ⟨g, off, none⟩) sLen sCap, .slice (some a) m c]).run P w =
      .ok (.slice (some ⟨g, off, none⟩) (sLen + m) sCap) (w.setRow g (cur.toList.take (off + sLen * i.size) ++ news ++ cur.toList.drop (off + sLen * i.size + news.length)).toArray) := by
  have hf := run_firstCells_some (P := P) w i.size m a m c news hl hnews
  have hst := run_storeCells_at P g (off + sLen * i.size) e news 0 cur w hg (by simpa using hfit) h1
  simp only [Nat.add_zero] at hst
  simp [Builtin.append_, run_underlying ht, sizeOf, typeInfo, hi, Builtin.lenOf, hroom, hf, Addr.add_lit, hst]

/-- What is left of a slice that may be appended to may be appended to. -/
theorem Grow.cut {B : Nat} {M : Mut} {v : Value} {n cap sz tag lo : Nat} {e : TypeId} {a : Option Addr} (h : Grow B M w v n sz tag e) (hv : v = .slice a n cap) (hlo : lo ≤ n) :
    Grow B M w (.slice (if cap = lo then a else a.map (·.add (lo * sz))) (n - lo) (cap - lo)) (n - lo) sz tag e := by
  subst hv
  rcases h.ex with ⟨a', ha'⟩ | ⟨g, off, cap', cur, k1, k2, k3, k4, k5, k6, k7⟩
  · cases ha'
    exact ⟨.inl ⟨_, rfl⟩⟩
  · cases k1
    by_cases hc : cap = lo
    · rw [if_pos hc]
      exact ⟨.inl ⟨_, by rw [show cap - lo = n - lo by omega]⟩⟩
    · rw [if_neg hc]
      refine ⟨.inr ⟨g, off + lo * sz, cap - lo, cur, ?_, k2, k3, by omega, by omega, ?_, ?_⟩⟩
      · simp [Addr.add_lit]
      · rw [k6, Nat.add_assoc, ← Nat.add_mul, show lo + (cap - lo) = cap by omega]
      · rw [k7, Nat.add_assoc, ← Nat.add_mul, show lo + (n - lo) = n by omega]

/-- append to a slice that is full, or whose room is the call's own. -/
theorem run_append_sl {α : Type} {E : Enc α} {M M0 : Mut} {w0 : World} {t ty e : TypeId} (ht : P.underlying t = some (.slice e)) (hE : TE P e E) {v u : Value} {l l2 : List α} {tag : Nat}
    (hr : Rn M0 w0 M w) (hv : SlOf E M w v l) (hg : Grow w0.heap.size M w v l.length E.sz tag e) (hu : SlOf E M w u l2) (hb : (l.length + l2.length) * E.by_ ≤ 140737488351232) :
    ∃ v' w' M', (Builtin.append_ #[t, t] ty #[v, u]).run P w = .ok v' w' ∧ SlOf E M' w' v' (l ++ l2) ∧ Grow w0.heap.size M' w' v' (l ++ l2).length E.sz tag e ∧ St w0.heap.size (some tag) M w M' w' := by
  obtain ⟨z, hz, hT⟩ := hE
  obtain ⟨i, z', hi, hs, hby, hz', hzc⟩ := hT.info
  obtain ⟨a, cap, e1, e2, e3, e4, e5, e6⟩ := hv.ex
  obtain ⟨b, cap2, f1, f2, f3, f4, f5, f6⟩ := hu.ex
  have hlen : (l ++ l2).length = l.length + l2.length := List.length_append
  have h63 : l.length + l2.length ≤ 140737488351232 := by
    have h1 := E.bpos
    have : (l.length + l2.length) * 1 ≤ (l.length + l2.length) * E.by_ := Nat.mul_le_mul_left _ h1
    omega
  have hzs : z'.cells.size = E.sz := by rw [hzc]; simpa using hz
  have hb' : (l.length + l2.length) * i.bytes ≤ 140737488355328 := by rw [hby]; omega
  subst e1 f1
  by_cases h0 : l2.length = 0
  · -- nothing to append
    have : l2 = [] := List.eq_nil_of_length_eq_zero h0
    subst this
    refine ⟨_, w, M, ?_, by simpa using hv, by simpa using hg, ⟨X.refl _ _, fun h => h, fun _ _ => rfl, Below.refl _ _, fun b p hp _ _ => ⟨hp, rfl⟩⟩⟩
    cases a <;> cases b <;> simp [Builtin.append_, run_underlying ht, sizeOf, typeInfo, hi, Builtin.lenOf, e2, Builtin.firstCells, loadCells, loadCellsFrom, storeCells]
  · cases b with
    | none => have := f4 rfl; omega
    | some ad2 =>
      obtain ⟨css2, c1, c2⟩ := CSS.of_elems (f6 ad2 rfl)
      have hnews : ∀ j v, css2[j]? = some v → w.cell? (ad2.add j) = some v := fun j v h => (c2 j v h).1
      have hl2 : css2.length = l2.length * i.size := by rw [c1.len, hs]
      -- what stands in a new array
      have hgrow : cap < l.length + l2.length → ∃ v' w' M', (Builtin.append_ #[t, t] ty #[.slice a l.length cap, .slice (some ad2) l2.length cap2]).run P w = .ok v' w' ∧ SlOf E M' w' v' (l ++ l2) ∧
          Grow w0.heap.size M' w' v' (l ++ l2).length E.sz tag e ∧ St w0.heap.size (some tag) M w M' w' := by
        intro hlt
        cases a with
        | none =>
          have hc0 := e4 rfl
          subst hc0
          have hl0 : l.length = 0 := by omega
          have : l = [] := List.eq_nil_of_length_eq_zero hl0
          subst this
          have hrun := run_append_nil (P := P) w t ty e i z' ht hi hz' ad2 l2.length cap2 css2 hl2 hnews (by omega) (by omega) (by simp only [List.length_nil, Nat.zero_add] at hb'; omega)
          obtain ⟨M', g1, g2, g3⟩ := grown_row (tag := tag) (e := e) (cap := grownCap w l2.length 0 e) hr (css := []) (l := []) rfl c1 hzs (by simpa using grownCap_ge w l2.length 0 e)
            (grownCap_le_maxLen w l2.length 0 e (by unfold maxLen; simp at h63; omega)) (by simpa using hb)
          simp only [List.length_nil, Nat.zero_add, Array.empty_append] at g1 g2 g3
          exact ⟨_, _, M', hrun, g1, g2, g3.weak⟩
        | some ad =>
          obtain ⟨css, d1, d2⟩ := CSS.of_elems (e6 ad rfl)
          have hrun := run_append_grow (P := P) w t ty e i z' ht hi hz' ad l.length cap css (by rw [d1.len, hs]) (fun j v h => (d2 j v h).1) ad2 l2.length cap2 css2 hl2 hnews hlt (by omega)
            (growslice_fits (by omega) hb')
          obtain ⟨M', g1, g2, g3⟩ := grown_row (tag := tag) (e := e) (cap := grownCap w (l.length + l2.length) cap e) hr d1 c1 hzs (grownCap_ge w _ cap e) (grownCap_le_maxLen w _ cap e (by unfold maxLen; omega)) hb
          exact ⟨_, _, M', hrun, g1, g2, g3.weak⟩
      by_cases hlt : cap < l.length + l2.length
      · exact hgrow hlt
      · -- there is room: it is the call's own
        rcases hg.ex with ⟨a', ha'⟩ | ⟨g, off, cap', cur, k1, k2, k3, k4, k5, k6, k7⟩
        · cases ha'; omega
        · cases k1
          have hfit : off + l.length * i.size + css2.length ≤ cur.size := by
            rw [hl2, k6, hs, Nat.add_assoc, ← Nat.add_mul]
            exact Nat.add_le_add_left (Nat.mul_le_mul_right _ (by omega)) _
          have hrun := run_append_room_at (P := P) w t ty e i ht hi g off l.length cap cur k3 ad2 l2.length cap2 css2 hl2 hnews c1.one (by omega) hfit
          obtain ⟨css, d1, d2⟩ := CSS.of_elems (e6 _ rfl)
          have hcss : css = (cur.toList.drop off).take (l.length * E.sz) := by
            apply List.ext_getElem?
            intro j
            rcases Nat.lt_or_ge j css.length with hj | hj
            · have hcell := d2 j _ (List.getElem?_eq_getElem hj)
              rw [Addr.add_lit] at hcell
              have := hcell.1
              rw [cell_of_row w g _ cur e (0, 0) k3] at this
              rw [List.getElem?_eq_getElem hj, List.getElem?_take, if_pos (by rw [← d1.len]; exact hj), List.getElem?_drop]
              simpa using this.symm
            · rw [List.getElem?_eq_none hj, List.getElem?_eq_none]
              have := d1.len
              simp
              omega
          let cur' : Array Value := (cur.toList.take (off + l.length * i.size) ++ css2 ++ cur.toList.drop (off + l.length * i.size + css2.length)).toArray
          have hgl : g < w.heap.size := (Array.getElem?_eq_some_iff.1 k3).1
          have hheap : (w.setRow g cur').heap[g]? = some (.cells cur' e (0, 0)) := setRow_heap w g cur _ e _ k3
          have hst : St w0.heap.size (some tag) M w (M.set g (some (off + (l.length + l2.length) * E.sz, tag))) (w.setRow g cur') :=
            St.write (k := off + l.length * E.sz) (k' := off + (l.length + l2.length) * E.sz) k2 hgl k7 rfl (Nat.add_le_add_left (Nat.mul_le_mul_right _ (by omega)) _) rfl rfl rfl (by simp [World.setRow]) (fun b hb => setRow_other w g b _ hb) (fun o ho => by
              rw [cell_setRow_same w g o cur cur' e (0, 0) k3, cell_of_row w g o cur e (0, 0) k3]
              have : cur'.toList[o]? = cur.toList[o]? := by
                simp only [cur', hs, List.append_assoc]
                rw [List.getElem?_append_left (by rw [hs] at hfit; simp only [List.length_take, Array.length_toList]; omega), List.getElem?_take, if_pos ho]
              simpa using this)
          refine ⟨_, _, _, hrun, ?_, ?_, hst⟩
          · have hcs := (d1.append c1).mono hst.x
            have hdl : (cur.toList.take (off + l.length * i.size)).length = off + l.length * i.size := by simp; omega
            have := SlOf.of_row_at (g := g) (off := off) (cap := cap) (e := e) (cur := cur') (fz := (0, 0)) hcs hheap (by
                rw [← hcs.len, hcss, ← hs]
                simp only [cur', List.append_assoc]
                rw [List.drop_append_of_le_length (by rw [hdl]; omega), List.drop_take, show off + l.length * i.size - off = l.length * i.size by omega, ← List.append_assoc]
                exact List.take_left) (by rw [hlen]; omega) k5 (by rw [hlen]; exact hb) (fun p hp => by
                  simp [Mut.set] at hp
                  subst hp
                  simp)
            rw [hlen] at this
            exact this
          · refine ⟨.inr ⟨g, off, cap, cur', by rw [hlen], k2, hheap, by rw [hlen]; omega, k5, ?_, by simp [Mut.set]⟩⟩
            simp only [cur', List.size_toArray, List.length_append, List.length_take, List.length_drop, Array.length_toList]
            rw [hs] at hfit ⊢
            omega

variable {N : Nat} {fr : Fr} {Ψ : Value → World → Prop} {d : Option Tmp} {ty : TypeId} {pos : String} {aft : Array Edge} {g : Option (Nat × Bool)}

/-- append(x, y...). -/
theorem op_append {α : Type} {E : Enc α} {M M0 : Mut} {w0 : World} {t e : TypeId} {x y : Operand} {v u : Value} {l l2 : List α} {tag : Nat} (ht : P.underlying t = some (.slice e)) (hE : TE P e E)
    (hx : opv fr x = some v) (hy : opv fr y = some u) (hr : Rn M0 w0 M w) (hv : SlOf E M w v l) (hg : Grow w0.heap.size M w v l.length E.sz tag e) (hu : SlOf E M w u l2)
    (hb : (l.length + l2.length) * E.by_ ≤ 140737488351232)
    (h : ∀ v' w' M', SlOf E M' w' v' (l ++ l2) → Grow w0.heap.size M' w' v' (l ++ l2).length E.sz tag e → St w0.heap.size (some tag) M w M' w' → Ψ v' w') :
    OP P N ⟨d, .call ⟨.builtin .append, #[x, y], #[t, t]⟩, ty, pos, aft, g⟩ fr w Ψ := by
  obtain ⟨v', w', M', hrun, h1, h2, h3⟩ := run_append_sl (ty := ty) ht hE hr hv hg hu hb
  exact OP.val (v := v') (w' := w') (fun a ha => by simp [execOp, resolve, invoke, builtin, ha.eval hx, ha.eval hy, hrun]) (h v' w' M' h1 h2 h3)

end
end Go.Proofs.Ytocoinkhbjlbhaa
