/-
  The calculus with typed frames: fields of structs; the program's types.
-/
import Derived.Test.YtocoinkhbjlbhaaKit9
import Derived.Test.YtocoinkhbjlbhaaBase
namespace Go.Proofs.Ytocoinkhbjlbhaa
open Go Go.RowKit

/-- A part of a datum, in its cells. -/
structure Lens {α β : Type} (E : Enc α) (off : Nat) (E' : Enc β) (pr : α → β) (st : α → β → α) : Prop where
  fit : off + E'.sz ≤ E.sz
  sub : ∀ {M : Mut} {w : World} {cs : List Value} {x : α}, E.R M w cs x → E'.R M w ((cs.drop off).take E'.sz) (pr x)
  set : ∀ {M : Mut} {w : World} {cs c : List Value} {x : α} {y : β}, E.R M w cs x → E'.R M w c y → E.R M w (splice cs off c) (st x y)

section
variable {α β γ δ : Type} {E : Enc α} {A : Enc α} {B : Enc β} {F : Enc γ} {off : Nat}

theorem Lens.id (E : Enc α) : Lens E 0 E (fun x => x) (fun _ y => y) :=
  ⟨by omega, fun h => by rw [List.drop_zero, List.take_of_length_le (by rw [E.len h]; omega)]; exact h, fun h h2 => by
    unfold splice
    rw [List.take_zero, List.nil_append, List.drop_of_length_le (by rw [E.len h, E.len h2]; omega), List.append_nil]
    exact h2⟩

theorem Lens.left (B : Enc β) {pr : α → γ} {st : α → γ → α} (h : Lens A off F pr st) : Lens (A.app B) off F (fun x => pr x.1) (fun x y => (st x.1 y, x.2)) :=
  ⟨by have := h.fit; show off + F.sz ≤ A.sz + B.sz; omega, fun {M w cs x} ⟨a, b, e, h1, h2⟩ => by
    subst e
    have hl := A.len h1
    have := h.fit
    rw [List.drop_append_of_le_length (by omega), List.take_append_of_le_length (by rw [List.length_drop]; omega)]
    exact h.sub h1, fun {M w cs c x y} ⟨a, b, e, h1, h2⟩ hc => by
    subst e
    have hl := A.len h1
    have hcl := F.len hc
    have := h.fit
    rw [splice_left (by omega)]
    exact ⟨_, b, rfl, h.set h1 hc, h2⟩⟩

theorem Lens.right (A : Enc α) {pr : β → γ} {st : β → γ → β} (h : Lens B off F pr st) : Lens (A.app B) (A.sz + off) F (fun x => pr x.2) (fun x y => (x.1, st x.2 y)) :=
  ⟨by have := h.fit; show A.sz + off + F.sz ≤ A.sz + B.sz; omega, fun {M w cs x} ⟨a, b, e, h1, h2⟩ => by
    subst e
    have hl := A.len h1
    rw [← hl, List.drop_length_add_append]
    exact h.sub h2, fun {M w cs c x y} ⟨a, b, e, h1, h2⟩ hc => by
    subst e
    have hl := A.len h1
    rw [← hl, splice_right]
    exact ⟨a, _, rfl, h1, h.set h2 hc⟩⟩

theorem Lens.via {g : δ → α} {by' : Nat} {hb : 0 < by'} {pr : α → γ} {st : α → γ → α} (pr' : δ → γ) (st' : δ → γ → δ) (h : Lens E off F pr st) (h1 : ∀ x, pr' x = pr (g x) := by intros; rfl) (h2 : ∀ x y, g (st' x y) = st (g x) y := by intros; rfl) :
    Lens (E.via g by' hb) off F pr' st' :=
  ⟨h.fit, fun {M w cs x} hr => by rw [h1]; exact h.sub hr, fun {M w cs c x y} hr hc => by
    show E.R M w (splice cs off c) (g (st' x y))
    rw [h2]
    exact h.set hr hc⟩

theorem Lens.elem {pr : α → γ} {st : α → γ → α} (h : Lens E off F pr st) {M : Mut} {w : World} {ad : Addr} {x : α} (he : Elem E M w ad x) : Elem F M w (ad.add off) (pr x) := by
  obtain ⟨cs, h1, h2⟩ := he
  refine ⟨_, h.sub h1, fun j c hj => ?_⟩
  rw [add_add']
  refine h2 _ c ?_
  rw [List.getElem?_take] at hj
  split at hj
  · rw [List.getElem?_drop] at hj; exact hj
  · cases hj

theorem Lens.fd {P : Program} {s : TypeId} {f : Nat} {pr : α → γ} {st : α → γ → α} (h : Lens E off F pr st) (hf : FD P s f off) : FDc P s f E F pr st :=
  ⟨off, hf, h.elem, fun h1 h2 => ⟨by rw [F.len h2]; exact h.fit, h.set h1 h2⟩⟩

theorem Lens.fv {P : Program} {s : TypeId} {f : Nat} {pr : α → γ} {st : α → γ → α} {Q : γ → Pub} (h : Lens E off F pr st) (hf : FV P s f off F.sz F.agg) (ha : E.agg = true) (hQ : LDc F Q) : FVc P s f E (fun x => Q (pr x)) :=
  ⟨fun {N fr M w d ty pos aft g x v a Ψ} hx hv hΨ => by
    obtain ⟨cs, h1, h2⟩ := hv
    rw [ha] at h2
    subst h2
    have hs := h.sub h1
    have hV : F.V M w (mkv F.agg ((cs.drop off).take F.sz)) (pr a) := ⟨_, hs, rfl⟩
    have hl := F.len hs
    cases hag : F.agg
    · rw [hag] at hf hV
      have h1s := F.one1 hag
      rw [h1s] at hV hl
      have hc : ∃ c, cs[off]? = some c ∧ (cs.drop off).take 1 = [c] := by
        cases hcs : cs[off]? with
        | none =>
          rw [List.getElem?_eq_none_iff] at hcs
          rw [List.drop_of_length_le hcs] at hl
          simp at hl
        | some c =>
          refine ⟨c, rfl, ?_⟩
          obtain ⟨hlt, rfl⟩ := List.getElem?_eq_some_iff.1 hcs
          rw [List.drop_eq_getElem_cons hlt]
          rfl
      obtain ⟨c, c1, c2⟩ := hc
      rw [c2] at hV
      exact op_field1 hf hx c1 (hΨ _ (hQ.out hV))
    · rw [hag] at hf hV
      exact op_fieldn hf hx (hΨ _ (hQ.out hV))⟩

/-- A struct of some fields: z: what the others hold. -/
structure BLs (plc : List (Nat × Nat)) (E : Enc α) (x0 : α) (idx : List Nat) (Qs : List Pub) (x : α) : Prop where
  out : ∀ {M : Mut} {w : World} {cs vs : List Value}, E.R M w cs x0 → FitL M w Qs vs → ∃ pl, PartsOk (fun i => plc[i]?) cs.length (idx.zip vs) pl ∧ E.R M w (splices cs pl) x

theorem bls_nil {plc : List (Nat × Nat)} {x : α} : BLs plc E x [] [] x := ⟨fun {M w cs vs} h hf => by
  cases vs with
  | nil => exact ⟨[], trivial, h⟩
  | cons => exact hf.elim⟩
theorem bls_cons {plc : List (Nat × Nat)} {x0 x : α} {i : Nat} {idx : List Nat} {Q : Pub} {Qs : List Pub} {y : γ} {pr : α → γ} {st : α → γ → α} (h : Lens E off F pr st) (hp : PEc Q F y) (hi : plc[i]? = some (off, F.sz)) (hr : BLs plc E (st x0 y) idx Qs x) :
    BLs plc E x0 (i :: idx) (Q :: Qs) x := ⟨fun {M w cs vs} h0 hf => by
  cases vs with
  | nil => exact hf.elim
  | cons v vs =>
    obtain ⟨c, c1, c2⟩ := hp.out hf.1
    have hcl := F.len c1
    have hfit := h.fit
    have hl := E.len h0
    obtain ⟨pl, p1, p2⟩ := hr.out (h.set h0 c1) hf.2
    refine ⟨(off, c) :: pl, ⟨by simpa [hcl] using hi, by rw [c2]; exact mkv_cells c1, by omega, ?_⟩, p2⟩
    rw [length_splice (by omega)] at p1
    exact p1⟩

theorem blc {P : Program} {t : TypeId} {plc : List (Nat × Nat)} {z : List Value} {x0 x : α} {idx : List Nat} {Qs : List Pub} (hS : SB P t plc z) (ha : E.agg = true) (hz : ∀ M w, E.R M w z x0) (h : BLs plc E x0 idx Qs x) : BLc P t idx Qs E x :=
  ⟨fun {N fr M w d ty pos aft g parts vs Ψ} hi hx hf hΨ => by
    obtain ⟨pl, p1, p2⟩ := h.out (hz M w) hf
    subst hi
    exact op_build hS hx p1 (hΨ _ ⟨_, p2, by rw [ha]; rfl⟩)⟩
end

/-! ### Numbers, slices -/

instance : BYc eI 8 := ⟨rfl⟩
instance {α : Type} {E : Enc α} : BYc (eSl E) 24 := ⟨rfl⟩
instance {k : IntKind} : LDc (eN k) (pK k) := ⟨fun {M w v x} ⟨cs, ⟨h1, h2, h3⟩, h⟩ => by subst h1; exact ⟨h, h2, h3⟩⟩
instance {α : Type} {E : Enc α} : LDc (eSl E) (pSl E) := ⟨fun h => eSl_V.1 h⟩
instance {k : IntKind} {n : Int} : PEc (pK k n) (eN k) n := ⟨fun {M w v} ⟨h, h1, h2⟩ => ⟨[v], ⟨by rw [h], h1, h2⟩, rfl⟩⟩
instance {α : Type} {E : Enc α} {l : List α} : PEc (pSl E l) (eSl E) l := ⟨fun h => eSl_V.2 h⟩
instance {α : Type} {E : Enc α} : PEc (pv (.slice none 0 0)) (eSl E) [] := ⟨fun {M w v} h => by cases h; exact eSl_V.2 (SlOf.nil E M w)⟩
instance {α : Type} {E : Enc α} {x : α} : PEc (pV E x) E x := ⟨fun h => h⟩

/-- A truth value. -/
def eB : Enc Bool where
  sz := 1
  by_ := 1
  agg := false
  R := fun _ _ cs b => cs = [.bool b]
  pos := by decide
  bpos := by decide
  one1 := fun _ => rfl
  len := fun h => by rw [h]; rfl
  one := fun h c hc => by rw [h] at hc; simp at hc; subst hc; rfl
  mono := fun h _ => h
instance : BYc eB 1 := ⟨rfl⟩
instance : LDc eB pB := ⟨fun {M w v x} ⟨cs, h1, h⟩ => by subst h1; exact h⟩
instance {b : Bool} : PEc (pB b) eB b := ⟨fun {M w v} h => ⟨[v], by rw [h]; rfl, rfl⟩⟩

instance : USl Try.prog 22 3 := ⟨uI⟩
instance : TEc Try.prog 3 eI := ⟨teI⟩
instance : TEc Try.prog 22 (eSl eI) := ⟨teSI⟩
instance : TEc Try.prog 4 eB := ⟨_, rfl, tdB⟩
instance : ZEc Try.prog 3 eI 0 := ⟨_, tdI, fun _ _ => ⟨rfl, fun _ => by unfold I64; omega, fun e => by cases e⟩⟩
instance : ZEc Try.prog 4 eB false := ⟨_, tdB, fun _ _ => rfl⟩
instance : ZEc Try.prog 22 (eSl eI) [] := ⟨_, tdSI, fun M w => ⟨_, rfl, SlOf.nil eI M w⟩⟩

/-! ### Lines -/

instance : USl Try.prog 23 47 := ⟨uL⟩
instance : USl Try.prog 24 23 := ⟨uLL⟩
instance : TEc Try.prog 47 eLine := ⟨teL⟩
instance : TEc Try.prog 23 (eSl eLine) := ⟨teSL⟩
instance : BYc eLine 64 := ⟨rfl⟩
instance : LDc eLine (pV eLine) := ⟨fun h => h⟩

theorem lineZ (M : Mut) (w : World) : eLine.R M w [.int .i64 0, .int .i64 0, .slice none 0 0, .slice none 0 0] ⟨0, 0, [], []⟩ :=
  eLine_R.2 ⟨_, _, rfl, by unfold I64; simp, by unfold I64; simp, SlOf.nil _ _ _, SlOf.nil _ _ _⟩
instance : ZEc Try.prog 47 eLine ⟨0, 0, [], []⟩ := ⟨_, tdL, lineZ⟩
instance : ZEc Try.prog 23 (eSl eLine) [] := ⟨_, tdSL, fun M w => ⟨_, rfl, SlOf.nil eLine M w⟩⟩
theorem l0 : Lens eLine 0 eI Line.frm (fun x y => { x with frm := y }) := (((Lens.id eI).left eI).left _).via _ _
theorem l1 : Lens eLine 1 eI Line.til (fun x y => { x with til := y }) := (((Lens.id eI).right eI).left _).via _ _
theorem l2 : Lens eLine 2 (eSl eI) Line.gaps (fun x y => { x with gaps := y }) := (((Lens.id (eSl eI)).left (eSl eI)).right (eI.app eI)).via _ _
theorem l3 : Lens eLine 3 (eSl eI) Line.notes (fun x y => { x with notes := y }) := (((Lens.id (eSl eI)).right (eSl eI)).right (eI.app eI)).via _ _
instance : FDc Try.prog 47 0 eLine eI Line.frm (fun x y => { x with frm := y }) := l0.fd fdL0
instance : FDc Try.prog 47 1 eLine eI Line.til (fun x y => { x with til := y }) := l1.fd fdL1
instance : FDc Try.prog 47 2 eLine (eSl eI) Line.gaps (fun x y => { x with gaps := y }) := l2.fd fdL2
instance : FDc Try.prog 47 3 eLine (eSl eI) Line.notes (fun x y => { x with notes := y }) := l3.fd fdL3
instance : FVc Try.prog 47 0 eLine (fun x => pI x.frm) := l0.fv fvL0 rfl inferInstance
instance : FVc Try.prog 47 1 eLine (fun x => pI x.til) := l1.fv fvL1 rfl inferInstance
instance : FVc Try.prog 47 2 eLine (fun x => pSl eI x.gaps) := l2.fv fvL2 rfl inferInstance
instance : FVc Try.prog 47 3 eLine (fun x => pSl eI x.notes) := l3.fv fvL3 rfl inferInstance

/-! ### Pages -/

theorem fdP0' : FD Try.prog 40 0 0 := fdP0
def eLb : Enc (Int × Int) := eI.app eI
theorem tdLb : TD Try.prog 38 2 16 true [.int .i64 0, .int .i64 0] := by
  exact TD.mk' (z := .agg #[.int .i64 0, .int .i64 0]) (by kernel_rfl) Try.underlying38 rfl
instance : TEc Try.prog 38 eLb := ⟨_, rfl, tdLb⟩
instance : LDc eLb (pV eLb) := ⟨fun h => h⟩
instance : USl Try.prog 27 40 := ⟨uP⟩
instance : TEc Try.prog 40 ePg := ⟨teP⟩
instance : BYc ePg 80 := ⟨rfl⟩
instance : LDc ePg (pV ePg) := ⟨fun h => h⟩
theorem pgZ (M : Mut) (w : World) : ePg.R M w [.int .i64 0, .int .i64 0, .int .i64 0, .int .i64 0, .slice none 0 0, .slice none 0 0] ⟨0, 0, 0, 0, [], []⟩ :=
  ePg_R.2 ⟨_, _, rfl, by unfold I64; simp, SlOf.nil _ _ _, SlOf.nil _ _ _⟩
instance : ZEc Try.prog 40 ePg ⟨0, 0, 0, 0, [], []⟩ := ⟨_, tdP, pgZ⟩
theorem p0 : Lens ePg 0 eLb (fun p => (p.num, p.suf)) (fun x y => { x with num := y.1, suf := y.2 }) := (((Lens.id (eI.app eI)).left (eI.app eI)).left _).via _ _
theorem p1 : Lens ePg 2 eI Pg.entry (fun x y => { x with entry := y }) := ((((Lens.id eI).left eI).right (eI.app eI)).left _).via _ _
theorem p2 : Lens ePg 3 eI Pg.version (fun x y => { x with version := y }) := ((((Lens.id eI).right eI).right (eI.app eI)).left _).via _ _
theorem p3 : Lens ePg 4 (eSl eLine) Pg.body (fun x y => { x with body := y }) := (((Lens.id (eSl eLine)).left (eSl eLine)).right ((eI.app eI).app (eI.app eI))).via _ _
theorem p4 : Lens ePg 5 (eSl eLine) Pg.notes (fun x y => { x with notes := y }) := (((Lens.id (eSl eLine)).right (eSl eLine)).right ((eI.app eI).app (eI.app eI))).via _ _
instance : FDc Try.prog 40 0 ePg eLb (fun p => (p.num, p.suf)) (fun x y => { x with num := y.1, suf := y.2 }) := p0.fd fdP0
instance : FDc Try.prog 40 1 ePg eI Pg.entry (fun x y => { x with entry := y }) := p1.fd fdP1
instance : FDc Try.prog 40 2 ePg eI Pg.version (fun x y => { x with version := y }) := p2.fd fdP2
instance : FDc Try.prog 40 3 ePg (eSl eLine) Pg.body (fun x y => { x with body := y }) := p3.fd fdP3
instance : FDc Try.prog 40 4 ePg (eSl eLine) Pg.notes (fun x y => { x with notes := y }) := p4.fd fdP4
instance : FVc Try.prog 40 3 ePg (fun x => pSl eLine x.body) := p3.fv fvP3 rfl inferInstance
instance : FVc Try.prog 40 4 ePg (fun x => pSl eLine x.notes) := p4.fv fvP4 rfl inferInstance

theorem SlOf.i64 {M : Mut} {w : World} {v : Value} {l : List Int} (h : SlOf eI M w v l) (i : Nat) (hi : i < l.length) : I64 l[i] := by
  obtain ⟨a, cap, h1, h2, h3, h4, h5, h6⟩ := h.ex
  cases a with
  | none => have := h4 rfl; omega
  | some ad =>
    obtain ⟨cs, ⟨_, hI, _⟩, _⟩ := h6 ad rfl i hi
    exact hI rfl

/-- From a contract of the elder kind. -/
theorem Fn.elder {P : Program} {g : FuncId} {Ps : List Pub} {Q : Pub} (he : Ent P g) (h : ∀ M w vs, MB M w → FitL M w Ps vs → CallsV P g vs w (fun v w' => Q.p M w' v ∧ Below w.heap.size w w')) : Fn P g Ps Q := ⟨he, h⟩
theorem Fn.use {P : Program} {g : FuncId} {Ps : List Pub} {Q : Pub} (h : Fn P g Ps Q) {M : Mut} {w : World} {vs : List Value} (hm : MB M w) (hf : FitL M w Ps vs) : CallsV P g vs w (fun v w' => Q.p M w' v ∧ Below w.heap.size w w') := h.run M w vs hm hf

end Go.Proofs.Ytocoinkhbjlbhaa
