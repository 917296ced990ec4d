/-
  The calculus with typed frames: of each slot one knows as what its value reads; what is known goes along with every step of memory.
-/
import Derived.Test.YtocoinkhbjlbhaaKit7
namespace Go.Proofs.Ytocoinkhbjlbhaa
open Go Go.RowKit

/-- As what a value reads. -/
structure Pub where
  p : Mut → World → Value → Prop
  mono : ∀ {M w M' w' v}, X M w M' w' → p M w v → p M' w' v

def Rng (k : IntKind) (n : Int) : Prop := (k = .i64 → I64 n) ∧ (k = .u8 → 0 ≤ n ∧ n ≤ 255)

/-- This value. -/
def pv (c : Value) : Pub := ⟨fun _ _ v => v = c, fun _ h => h⟩
/-- This number. -/
def pK (k : IntKind) (n : Int) : Pub := ⟨fun _ _ v => v = .int k n ∧ Rng k n, fun _ h => h⟩
@[reducible] def pI (n : Int) : Pub := pK .i64 n
@[reducible] def pB (b : Bool) : Pub := pv (.bool b)
def pSl {α : Type} (E : Enc α) (l : List α) : Pub := ⟨fun M w v => SlOf E M w v l, fun hx h => h.mono hx⟩
def pPtr {α : Type} (E : Enc α) (x : α) : Pub := ⟨fun M w v => ∃ ad, v = .pointer (some ad) ∧ Elem E M w ad x, fun hx ⟨ad, h1, h2⟩ => ⟨ad, h1, h2.mono hx⟩⟩
def pV {α : Type} (E : Enc α) (x : α) : Pub := ⟨fun M w v => E.V M w v x, fun hx h => h.mono hx⟩
def pT2 (a b : Pub) : Pub := ⟨fun M w v => ∃ x y, v = .tuple #[x, y] ∧ a.p M w x ∧ b.p M w y, fun hx ⟨x, y, h, h1, h2⟩ => ⟨x, y, h, a.mono hx h1, b.mono hx h2⟩⟩
def pT3 (a b c : Pub) : Pub := ⟨fun M w v => ∃ x y z, v = .tuple #[x, y, z] ∧ a.p M w x ∧ b.p M w y ∧ c.p M w z, fun hx ⟨x, y, z, h, h1, h2, h3⟩ => ⟨x, y, z, h, a.mono hx h1, b.mono hx h2, c.mono hx h3⟩⟩
def pEx {α : Type} (q : α → Pub) : Pub := ⟨fun M w v => ∃ a, (q a).p M w v, fun hx ⟨a, h⟩ => ⟨a, (q a).mono hx h⟩⟩
def pAnd (φ : Prop) (q : Pub) : Pub := ⟨fun M w v => φ ∧ q.p M w v, fun hx ⟨h, k⟩ => ⟨h, q.mono hx k⟩⟩
/-- A row of n elements that is written under a tag. -/
def pSr (b n : Nat) : Pub := pv (.slice (some ⟨b, 0, none⟩) n n)
/-- The place of its element i; of a part of it. -/
def pRo {α : Type} (b : Nat) (E : Enc α) (i : Nat) : Pub := pv (.pointer (some ⟨b, i * E.sz, none⟩))
/-- A cell of a variable in memory. -/
def pCe (b off : Nat) : Pub := pv (.pointer (some ⟨b, off, none⟩))
def pRf {α : Type} (b : Nat) (E : Enc α) (i off : Nat) : Pub := pv (.pointer (some ⟨b, i * E.sz + off, none⟩))

/-- What is known of a slot. -/
inductive Kd : Type 1 where
  | pu (p : Pub)
  | gr {α : Type} (E : Enc α) (l : List α) (tag : Nat) (e : TypeId)
  | rw {α : Type} (b tag : Nat) (E : Enc α) (l : List α) (e : TypeId)
  | bx (b tag : Nat) (cs : List Value) (e : TypeId)
  | gv {α : Type} (v : Value) (E : Enc α) (l : List α) (tag : Nat) (e : TypeId)
  | ow {α : Type} (E : Enc α) (l : List α) (tag : Nat) (e : TypeId)
  | no

/-- Of a value. -/
def Kd.V (B : Nat) (M : Mut) (w : World) (v : Value) : Kd → Prop
  | .pu p => p.p M w v
  | .gr E l tag e => SlOf E M w v l ∧ Grow B M w v l.length E.sz tag e
  | .rw b tag E l e => B ≤ b ∧ ∃ css, CSS E M w css l ∧ Box M w b tag css e
  | .bx b tag cs e => B ≤ b ∧ Box M w b tag cs e
  | .gv u E l tag e => SlOf E M w u l ∧ Grow B M w u l.length E.sz tag e
  | .ow E l tag e => ∃ b, v = .slice (some ⟨b, 0, none⟩) l.length l.length ∧ B ≤ b ∧ ∃ css, CSS E M w css l ∧ Box M w b tag css e
  | .no => True

/-- Of a slot. -/
def Kd.E (B : Nat) (M : Mut) (w : World) (fr : Fr) (t : Nat) : Kd → Prop
  | .pu p => ∃ v, look fr t = some v ∧ p.p M w v
  | .gr E l tag e => ∃ v, look fr t = some v ∧ SlOf E M w v l ∧ Grow B M w v l.length E.sz tag e
  | .rw b tag E l e => B ≤ b ∧ ∃ css, CSS E M w css l ∧ Box M w b tag css e
  | .bx b tag cs e => B ≤ b ∧ Box M w b tag cs e
  | .gv u E l tag e => SlOf E M w u l ∧ Grow B M w u l.length E.sz tag e
  | .ow E l tag e => ∃ b, look fr t = some (.slice (some ⟨b, 0, none⟩) l.length l.length) ∧ B ≤ b ∧ ∃ css, CSS E M w css l ∧ Box M w b tag css e
  | .no => True

def Kd.keep (W : List Nat) : Kd → Bool
  | .gr _ _ tag _ => !(W.any (Nat.beq tag))
  | .rw _ tag _ _ _ => !(W.any (Nat.beq tag))
  | .bx _ tag _ _ => !(W.any (Nat.beq tag))
  | .gv _ _ _ tag _ => !(W.any (Nat.beq tag))
  | .ow _ _ tag _ => !(W.any (Nat.beq tag))
  | _ => true

/-- What is left of it behind a step that writes under tags of W. -/
def Kd.after (W : List Nat) : Kd → Kd
  | .pu p => .pu p
  | .gr E l tag e => bif W.any (Nat.beq tag) then .pu (pSl E l) else .gr E l tag e
  | .rw b tag E l e => bif W.any (Nat.beq tag) then .no else .rw b tag E l e
  | .bx b tag cs e => bif W.any (Nat.beq tag) then .no else .bx b tag cs e
  | .gv u E l tag e => bif W.any (Nat.beq tag) then .no else .gv u E l tag e
  | .ow E l tag e => bif W.any (Nat.beq tag) then .no else .ow E l tag e
  | .no => .no

def Kd.ghost : Kd → Bool
  | .rw _ _ _ _ _ => true
  | .bx _ _ _ _ => true
  | .gv _ _ _ _ _ => true
  | _ => false

abbrev TF := List (Nat × Kd)

def tlook : TF → Nat → Option Kd
  | [], _ => none
  | (k, T) :: r, t => bif Nat.beq k t then some T else tlook r t

def dropW (W : List Nat) : TF → TF
  | [] => []
  | (k, T) :: r => (k, T.after W) :: dropW W r

def Kd.pub : Kd → Option Pub
  | .pu p => some p
  | .gr E l _ _ => some (pSl E l)
  | _ => none

def inR : IntKind → Int → Bool
  | .i64, .ofNat n => Nat.ble n 9223372036854775807
  | .i64, .negSucc n => Nat.ble n 9223372036854775807
  | .u8, .ofNat n => Nat.ble n 255
  | .u8, .negSucc _ => false
  | _, _ => true

theorem inR_rng {k : IntKind} {n : Int} (h : inR k n = true) : Rng k n := by
  unfold Rng I64
  cases k <;> cases n <;> simp_all [inR] <;> omega

def cpub : Value → Option Pub
  | .int k n => bif inR k n then some (pK k n) else some (pv (.int k n))
  | v => some (pv v)

def topP (G : TF) : Operand → Option Pub
  | .tmp t => match tlook G t with
    | some T => T.pub
    | none => none
  | .const v => cpub v
  | .global g => some (pv (.pointer (some ⟨g, 0, none⟩)))
  | .func f => some (pv (.func (.func f) #[] #[]))

theorem nbeq_ne {a b : Nat} (h : a ≠ b) : Nat.beq a b = false := by
  cases hb : Nat.beq a b
  · rfl
  · exact absurd (nbeq.1 hb) h
theorem nbeq_self (a : Nat) : Nat.beq a a = true := nbeq.2 rfl

theorem tlook_eq (k : Nat) (T : Kd) (r : TF) : tlook ((k, T) :: r) k = some T := by simp [tlook]
theorem tlook_ne {k t : Nat} (T : Kd) (r : TF) (h : k ≠ t) : tlook ((k, T) :: r) t = tlook r t := by simp [tlook, nbeq_ne h]

theorem tlook_dropW {W : List Nat} : ∀ {G : TF} {t : Nat} {T : Kd}, tlook (dropW W G) t = some T → ∃ T', tlook G t = some T' ∧ T = T'.after W
  | [], _, _, h => by simp [dropW, tlook] at h
  | (k, U) :: r, t, T, h => by
    by_cases e : k = t
    · subst e
      rw [dropW, tlook_eq] at h
      exact ⟨U, tlook_eq _ _ _, (Option.some.inj h).symm⟩
    · rw [dropW, tlook_ne _ _ e] at h
      rw [tlook_ne _ _ e]
      exact tlook_dropW h

/-- The frame is as said, where asked. -/
structure FitX (B : Nat) (M : Mut) (w : World) (fr : Fr) (G : TF) (S : Nat → Prop) : Prop where
  out : ∀ t T, tlook G t = some T → T.ghost = true ∨ S t → T.E B M w fr t
abbrev Fit (B : Nat) (M : Mut) (w : World) (fr : Fr) (G : TF) : Prop := FitX B M w fr G (fun _ => True)

section
variable {B : Nat} {M M' : Mut} {w w' : World} {fr : Fr} {G : TF} {S : Nat → Prop}

theorem Kd.V_E {T : Kd} {d : Nat} {v : Value} (h : T.V B M w v) : T.E B M w ((d, v) :: fr) d := by
  cases T with
  | pu p => exact ⟨v, look_cons_eq _ _ _, h⟩
  | gr E l tag e => exact ⟨v, look_cons_eq _ _ _, h⟩
  | rw b tag E l e => exact h
  | bx b tag cs e => exact h
  | gv u E l tag e => exact h
  | ow E l tag e => obtain ⟨b, rfl, h2⟩ := h; exact ⟨b, look_cons_eq _ _ _, h2⟩
  | no => exact trivial

theorem Kd.E_look {fr' : Fr} {T : Kd} {t : Nat} (h : T.E B M w fr t) (hl : look fr' t = look fr t) : T.E B M w fr' t := by
  cases T with
  | pu p => obtain ⟨v, h1, h2⟩ := h; exact ⟨v, hl.trans h1, h2⟩
  | gr E l tag e => obtain ⟨v, h1, h2⟩ := h; exact ⟨v, hl.trans h1, h2⟩
  | rw b tag E l e => exact h
  | bx b tag cs e => exact h
  | gv u E l tag e => exact h
  | ow E l tag e => obtain ⟨b, h1, h2⟩ := h; exact ⟨b, hl.trans h1, h2⟩
  | no => exact trivial

theorem Kd.E_ghost {fr' : Fr} {T : Kd} {t t' : Nat} (h : T.E B M w fr t) (hg : T.ghost = true) : T.E B M w fr' t' := by
  cases T with
  | rw b tag E l e => exact h
  | bx b tag cs e => exact h
  | gv u E l tag e => exact h
  | _ => simp [Kd.ghost] at hg

theorem Fit.cons (h : Fit B M w fr G) {d : Nat} {T : Kd} {v : Value} (ht : T.V B M w v) : Fit B M w ((d, v) :: fr) ((d, T) :: G) := ⟨fun t U hU _ => by
  by_cases e : d = t
  · subst e
    rw [tlook_eq] at hU
    cases hU
    exact Kd.V_E ht
  · rw [tlook_ne _ _ e] at hU
    exact Kd.E_look (h.out t U hU (.inr trivial)) (look_cons_ne _ _ e)⟩

theorem Fit.hide (h : Fit B M w fr G) {d : Nat} {T : Kd} (ht : T.E B M w fr d) : Fit B M w fr ((d, T) :: G) := ⟨fun t U hU _ => by
  by_cases e : d = t
  · subst e
    rw [tlook_eq] at hU
    cases hU
    exact ht
  · rw [tlook_ne _ _ e] at hU
    exact h.out t U hU (.inr trivial)⟩

theorem anyb {W : List Nat} {t : Nat} (h : W.any (Nat.beq t) = false) : t ∉ W := fun hm => by
  rw [List.any_eq_true.2 ⟨t, hm, nbeq_self t⟩] at h; cases h

theorem Grow.stw0 {B' : Nat} {v : Value} {n sz tag : Nat} {e : TypeId} {W : List Nat} (h : Grow B M w v n sz tag e) (s : StW B' W M w M' w') (ht : tag ∉ W) : Grow B M' w' v n sz tag e := by
  rcases h.ex with h | ⟨g, off, cap, cur, k1, k2, k3, k4, k5, k6, k7⟩
  · exact ⟨.inl h⟩
  · have hl := (Array.getElem?_eq_some_iff.1 k3).1
    obtain ⟨q1, q2⟩ := s.keep g _ k7 ht hl
    exact ⟨.inr ⟨g, off, cap, cur, k1, k2, q2.trans k3, k4, k5, k6, q1⟩⟩

theorem Kd.E_after {W : List Nat} {B' : Nat} {T : Kd} {t : Nat} (h : T.E B M w fr t) (hs : StW B' W M w M' w') : (T.after W).E B M' w' fr t := by
  cases T with
  | pu p => obtain ⟨v, h1, h2⟩ := h; exact ⟨v, h1, p.mono hs.x h2⟩
  | gr E l tag e =>
    obtain ⟨v, h1, h2, h3⟩ := h
    cases hc : W.any (Nat.beq tag)
    · rw [show Kd.after W (.gr E l tag e) = .gr E l tag e by simp [Kd.after, hc]]
      exact ⟨v, h1, h2.mono hs.x, h3.stw0 hs (anyb hc)⟩
    · rw [show Kd.after W (.gr E l tag e) = .pu (pSl E l) by simp [Kd.after, hc]]
      exact ⟨v, h1, h2.mono hs.x⟩
  | rw b tag E l e =>
    obtain ⟨h1, css, h2, h3⟩ := h
    cases hc : W.any (Nat.beq tag)
    · rw [show Kd.after W (.rw b tag E l e) = .rw b tag E l e by simp [Kd.after, hc]]
      exact ⟨h1, css, h2.mono hs.x, h3.stw hs (anyb hc)⟩
    · rw [show Kd.after W (.rw b tag E l e) = .no by simp [Kd.after, hc]]
      exact trivial
  | bx b tag cs e =>
    obtain ⟨h1, h3⟩ := h
    cases hc : W.any (Nat.beq tag)
    · rw [show Kd.after W (.bx b tag cs e) = .bx b tag cs e by simp [Kd.after, hc]]
      exact ⟨h1, h3.stw hs (anyb hc)⟩
    · rw [show Kd.after W (.bx b tag cs e) = .no by simp [Kd.after, hc]]
      exact trivial
  | gv u E l tag e =>
    obtain ⟨h2, h3⟩ := h
    cases hc : W.any (Nat.beq tag)
    · rw [show Kd.after W (.gv u E l tag e) = .gv u E l tag e by simp [Kd.after, hc]]
      exact ⟨h2.mono hs.x, h3.stw0 hs (anyb hc)⟩
    · rw [show Kd.after W (.gv u E l tag e) = .no by simp [Kd.after, hc]]
      exact trivial
  | ow E l tag e =>
    obtain ⟨b, h0, h1, css, h2, h3⟩ := h
    cases hc : W.any (Nat.beq tag)
    · rw [show Kd.after W (.ow E l tag e) = .ow E l tag e by simp [Kd.after, hc]]
      exact ⟨b, h0, h1, css, h2.mono hs.x, h3.stw hs (anyb hc)⟩
    · rw [show Kd.after W (.ow E l tag e) = .no by simp [Kd.after, hc]]
      exact trivial
  | no => exact trivial

theorem Kd.V_keep {W : List Nat} {B' : Nat} {T : Kd} {v : Value} (h : T.V B M w v) (hs : StW B' W M w M' w') (hk : T.keep W = true) : T.V B M' w' v := by
  cases T with
  | pu p => exact p.mono hs.x h
  | gr E l tag e =>
    obtain ⟨h2, h3⟩ := h
    have hc : W.any (Nat.beq tag) = false := by simpa [Kd.keep] using hk
    exact ⟨h2.mono hs.x, h3.stw0 hs (anyb hc)⟩
  | rw b tag E l e =>
    obtain ⟨h1, css, h2, h3⟩ := h
    have hc : W.any (Nat.beq tag) = false := by simpa [Kd.keep] using hk
    exact ⟨h1, css, h2.mono hs.x, h3.stw hs (anyb hc)⟩
  | bx b tag cs e =>
    have hc : W.any (Nat.beq tag) = false := by simpa [Kd.keep] using hk
    exact ⟨h.1, h.2.stw hs (anyb hc)⟩
  | gv u E l tag e =>
    have hc : W.any (Nat.beq tag) = false := by simpa [Kd.keep] using hk
    exact ⟨h.1.mono hs.x, h.2.stw0 hs (anyb hc)⟩
  | ow E l tag e =>
    obtain ⟨b, h0, h1, css, h2, h3⟩ := h
    have hc : W.any (Nat.beq tag) = false := by simpa [Kd.keep] using hk
    exact ⟨b, h0, h1, css, h2.mono hs.x, h3.stw hs (anyb hc)⟩
  | no => exact trivial

theorem Fit.after {W : List Nat} {B' : Nat} (h : Fit B M w fr G) (hs : StW B' W M w M' w') : Fit B M' w' fr (dropW W G) := ⟨fun t T hT _ => by
  obtain ⟨T', h1, rfl⟩ := tlook_dropW hT
  exact Kd.E_after (h.out t T' h1 (.inr trivial)) hs⟩

theorem Kd.after_nil (T : Kd) : T.after [] = T := by cases T <;> rfl
theorem dropW_nil : ∀ G : TF, dropW [] G = G
  | [] => rfl
  | (k, T) :: r => by rw [dropW, Kd.after_nil, dropW_nil r]

theorem Fit.up {B' : Nat} (h : Fit B M w fr G) (hs : StW B' [] M w M' w') : Fit B M' w' fr G := by
  have := h.after hs
  rwa [dropW_nil] at this

theorem Kd.pub_E {T : Kd} {p : Pub} {t : Nat} (hp : T.pub = some p) (h : T.E B M w fr t) : ∃ v, look fr t = some v ∧ p.p M w v := by
  cases T with
  | pu q => cases hp; exact h
  | gr E l tag e => cases hp; obtain ⟨v, h1, h2, _⟩ := h; exact ⟨v, h1, h2⟩
  | rw b tag E l e => cases hp
  | bx b tag cs e => cases hp
  | gv u E l tag e => cases hp
  | ow E l tag e => cases hp
  | no => cases hp

theorem cpub_ok {v : Value} {p : Pub} (h : cpub v = some p) : p.p M w v := by
  unfold cpub at h
  split at h
  · cases hc : inR _ _
    · rw [hc] at h; cases h; exact rfl
    · rw [hc] at h; cases h; exact ⟨rfl, inR_rng hc⟩
  · cases h; exact rfl

/-- What an operand reads as. -/
theorem FitX.op0 {x : Operand} {p : Pub} (h : FitX B M w fr G S) (hx : topP G x = some p) (hS : ∀ t, x = .tmp t → S t) : ∃ v, opv fr x = some v ∧ p.p M w v := by
  cases x with
  | tmp t =>
    simp only [topP] at hx
    split at hx
    · rename_i T hT
      exact Kd.pub_E hx (h.out t T hT (.inr (hS t rfl)))
    · cases hx
  | const v => exact ⟨v, rfl, cpub_ok hx⟩
  | global g => cases hx; exact ⟨_, rfl, rfl⟩
  | func f => cases hx; exact ⟨_, rfl, rfl⟩
theorem FitX.op {xs : List Operand} {x : Operand} {p : Pub} (h : FitX B M w fr G (fun t => Operand.tmp t ∈ xs)) (hx : topP G x = some p) (hm : x ∈ xs) : ∃ v, opv fr x = some v ∧ p.p M w v :=
  h.op0 hx fun _ e => e ▸ hm
end

/-! ### Operations -/

/-- The operation yields a value of kind T and writes under tags of W alone. -/
structure TOp (P : Program) (N : Nat) (o : Oper) (G : TF) (W : List Nat) (T : Kd) : Prop where
  out : ∃ xs : List Operand, (∀ x ∈ xs, x ∈ o.op.operands) ∧ ∀ {M0 : Mut} {w0 : World} {M : Mut} {w : World} {fr : Fr}, Rn M0 w0 M w → FitX w0.heap.size M w fr G (fun t => Operand.tmp t ∈ xs) →
    OP P N o fr w (fun v w' => ∃ M', StW w0.heap.size W M w M' w' ∧ T.V w0.heap.size M' w' v)

theorem TOp.fit {P : Program} {N : Nat} {o : Oper} {G : TF} {W : List Nat} {T : Kd} (h : TOp P N o G W T) {M0 : Mut} {w0 : World} {M : Mut} {w : World} {fr : Fr} (hr : Rn M0 w0 M w) (hf : Fit w0.heap.size M w fr G) :
    OP P N o fr w (fun v w' => ∃ M', StW w0.heap.size W M w M' w' ∧ T.V w0.heap.size M' w' v) := by
  obtain ⟨xs, _, h2⟩ := h.out
  exact h2 hr ⟨fun t T hT _ => hf.out t T hT (.inr trivial)⟩

def topPs (G : TF) : List Operand → Option (List Pub)
  | [] => some []
  | x :: r => match topP G x, topPs G r with
    | some p, some l => some (p :: l)
    | _, _ => none

def FitL (M : Mut) (w : World) : List Pub → List Value → Prop
  | [], [] => True
  | p :: r, v :: s => p.p M w v ∧ FitL M w r s
  | _, _ => False

theorem FitX.ops {B : Nat} {M : Mut} {w : World} {fr : Fr} {G : TF} {S : Nat → Prop} (h : FitX B M w fr G S) : ∀ {xs : List Operand} {ps : List Pub}, topPs G xs = some ps → (∀ t, Operand.tmp t ∈ xs → S t) → ∃ vs, opvs fr xs = some vs ∧ FitL M w ps vs
  | [], ps, hx, _ => by cases hx; exact ⟨[], rfl, trivial⟩
  | x :: r, ps, hx, hS => by
    simp only [topPs] at hx
    split at hx
    · rename_i p l h1 h2
      cases hx
      obtain ⟨v, k1, k2⟩ := h.op0 h1 (fun t e => hS t (by simp [e]))
      obtain ⟨vs, k3, k4⟩ := h.ops h2 (fun t e => hS t (by simp [e]))
      exact ⟨v :: vs, by simp [opvs, k1, k3], k2, k4⟩
    · cases hx

/-- A function: called with such arguments it hands back such a value, and nothing that was there is turned. -/
structure Fn (P : Program) (g : FuncId) (Ps : List Pub) (Q : Pub) : Prop where
  ent : Ent P g
  run : ∀ M w vs, MB M w → FitL M w Ps vs → CallsV P g vs w (fun v w' => Q.p M w' v ∧ Below w.heap.size w w')

class USl (P : Program) (t : TypeId) (e : outParam TypeId) : Prop where
  out : P.underlying t = some (.slice e)
class TEc (P : Program) (t : TypeId) {α : outParam Type} (E : outParam (Enc α)) : Prop where
  out : TE P t E
class BYc {α : Type} (E : Enc α) (n : outParam Nat) : Prop where
  out : E.by_ = n
class LDc {α : Type} (E : Enc α) (Q : outParam (α → Pub)) : Prop where
  out : ∀ {M : Mut} {w : World} {v : Value} {x : α}, E.V M w v x → (Q x).p M w v
class PEc {α : Type} (Q : Pub) (E : Enc α) (x : outParam α) : Prop where
  out : ∀ {M : Mut} {w : World} {v : Value}, Q.p M w v → E.V M w v x
/-- A field of what lies at an address. -/
class FDc {α : Type} {β : outParam Type} (P : Program) (s : TypeId) (f : Nat) (E : Enc α) (E' : outParam (Enc β)) (pr : outParam (α → β)) (st : outParam (α → β → α)) : Prop where
  out : ∃ off, FD P s f off ∧ (∀ {M : Mut} {w : World} {ad : Addr} {x : α}, Elem E M w ad x → Elem E' M w (ad.add off) (pr x)) ∧
    ∀ {M : Mut} {w : World} {cs c : List Value} {x : α} {y : β}, E.R M w cs x → E'.R M w c y → off + c.length ≤ E.sz ∧ E.R M w (splice cs off c) (st x y)
/-- A field of a struct's value. -/
class FVc {α : Type} (P : Program) (s : TypeId) (f : Nat) (E : Enc α) (Q : outParam (α → Pub)) : Prop where
  out : ∀ {N : Nat} {fr : Fr} {M : Mut} {w : World} {d : Option Tmp} {ty : TypeId} {pos : String} {aft : Array Edge} {g : Option (Nat × Bool)} {x : Operand} {v : Value} {a : α} {Ψ : Value → World → Prop},
    opv fr x = some v → E.V M w v a → (∀ u, (Q a).p M w u → Ψ u w) → OP P N ⟨d, .field s x f, ty, pos, aft, g⟩ fr w Ψ
/-- Where a field lies. -/
class FOc (P : Program) (s : TypeId) (f : Nat) (off : outParam Nat) : Prop where
  out : FD P s f off
/-- A type of one cell. -/
class T1c (P : Program) (t : TypeId) : Prop where
  out : ∃ by' z, TD P t 1 by' false z
/-- A struct of some fields. -/
class BLc {α : outParam Type} (P : Program) (t : TypeId) (idx : List Nat) (Qs : List Pub) (E : outParam (Enc α)) (x : outParam α) : Prop where
  out : ∀ {N : Nat} {fr : Fr} {M : Mut} {w : World} {d : Option Tmp} {ty : TypeId} {pos : String} {aft : Array Edge} {g : Option (Nat × Bool)} {parts : List (Nat × Operand)} {vs : List Value} {Ψ : Value → World → Prop},
    parts.map (·.1) = idx → opvs fr (parts.map (·.2)) = some vs → FitL M w Qs vs → (∀ u, E.V M w u x → Ψ u w) → OP P N ⟨d, .build t parts.toArray, ty, pos, aft, g⟩ fr w Ψ
/-- The zero. -/
class ZEc {α : Type} (P : Program) (e : TypeId) (E : Enc α) (x : outParam α) : Prop where
  out : ∃ z, TD P e E.sz E.by_ E.agg z ∧ ∀ M w, E.R M w z x
/-- Values of a list's elements. -/
class PEL {α : Type} (E : Enc α) (Qs : List Pub) (l : outParam (List α)) : Prop where
  out : ∀ {M : Mut} {w : World} {vs : List Value}, FitL M w Qs vs → Vals E M w vs l
instance {α : Type} {E : Enc α} : PEL E [] [] := ⟨fun {M w vs} h => by
  cases vs with
  | nil => exact trivial
  | cons => exact h.elim⟩
instance {α : Type} {E : Enc α} {Q : Pub} {Qs : List Pub} {x : α} {xs : List α} [h : PEc Q E x] [r : PEL E Qs xs] : PEL E (Q :: Qs) (x :: xs) := ⟨fun {M w vs} hf => by
  cases vs with
  | nil => exact hf.elim
  | cons => exact ⟨h.out hf.1, r.out hf.2⟩⟩
section
variable {P : Program} {N : Nat} {G : TF} {d : Option Tmp} {ty : TypeId} {pos : String} {aft : Array Edge} {g : Option (Nat × Bool)}

theorem TOp.pure {o : Oper} {p : Pub} (xs : List Operand) (hs : ∀ x ∈ xs, x ∈ o.op.operands) (h : ∀ {B : Nat} {M : Mut} {w : World} {fr : Fr}, FitX B M w fr G (fun t => Operand.tmp t ∈ xs) → OP P N o fr w (fun v w' => w' = w ∧ p.p M w v)) :
    TOp P N o G [] (.pu p) := ⟨xs, hs, fun {_ _ M _ _} _ hf => (h hf).mono fun _ _ ⟨e, k⟩ => ⟨M, e ▸ StW.refl _ _ _, e ▸ k⟩⟩

theorem TOp.up {o : Oper} {p : Pub} (xs : List Operand) (hs : ∀ x ∈ xs, x ∈ o.op.operands) (h : ∀ {M0 : Mut} {w0 : World} {M : Mut} {w : World} {fr : Fr}, Rn M0 w0 M w → FitX w0.heap.size M w fr G (fun t => Operand.tmp t ∈ xs) → OP P N o fr w (fun v w' => Below w.heap.size w w' ∧ p.p M w' v)) :
    TOp P N o G [] (.pu p) := ⟨xs, hs, fun {_ _ M _ _} hr hf => (h hr hf).mono fun _ _ ⟨e, k⟩ => ⟨M, StW.up hr.size (UpM.of_below e), k⟩⟩

theorem rng64 {n : Int} (h : -9223372036854775808 ≤ n ∧ n ≤ 9223372036854775807) : Rng .i64 n := ⟨fun _ => h, fun e => by cases e⟩

theorem t_move {x : Operand} {p : Pub} (hx : topP G x = some p := by rfl) : TOp P N ⟨d, .move x, ty, pos, aft, g⟩ G [] (.pu p) :=
  .pure [x] (by simp [Op.operands]) fun hf => by
    obtain ⟨v, h1, h2⟩ := hf.op hx (by simp)
    exact op_move h1 ⟨rfl, h2⟩
theorem t_assign {x : Operand} {p : Pub} (hx : topP G x = some p := by rfl) : TOp P N ⟨d, .assign x, ty, pos, aft, g⟩ G [] (.pu p) :=
  .pure [x] (by simp [Op.operands]) fun hf => by
    obtain ⟨v, h1, h2⟩ := hf.op hx (by simp)
    exact op_assign h1 ⟨rfl, h2⟩
/-- A row that is written goes over into another slot. -/
theorem t_moveO {α : Type} {E : Enc α} {l : List α} {tag : Nat} {e : TypeId} {t : Nat} (hx : tlook G t = some (.ow E l tag e) := by rfl) : TOp P N ⟨d, .move (.tmp t), ty, pos, aft, g⟩ G [] (.ow E l tag e) :=
  ⟨[.tmp t], by simp [Op.operands], fun {M0 w0 M w fr} hr hf => by
    obtain ⟨b, h1, h2⟩ := hf.out t _ hx (.inr (by simp))
    exact op_move h1 ⟨M, StW.refl _ _ _, b, rfl, h2⟩⟩
theorem t_assignO {α : Type} {E : Enc α} {l : List α} {tag : Nat} {e : TypeId} {t : Nat} (hx : tlook G t = some (.ow E l tag e) := by rfl) : TOp P N ⟨d, .assign (.tmp t), ty, pos, aft, g⟩ G [] (.ow E l tag e) :=
  ⟨[.tmp t], by simp [Op.operands], fun {M0 w0 M w fr} hr hf => by
    obtain ⟨b, h1, h2⟩ := hf.out t _ hx (.inr (by simp))
    exact op_assign h1 ⟨M, StW.refl _ _ _, b, rfl, h2⟩⟩
/-- A slice that may be appended to goes over into another slot. -/
theorem t_moveG {α : Type} {E : Enc α} {l : List α} {tag : Nat} {e : TypeId} {t : Nat} (hx : tlook G t = some (.gr E l tag e) := by rfl) : TOp P N ⟨d, .move (.tmp t), ty, pos, aft, g⟩ G [] (.gr E l tag e) :=
  ⟨[.tmp t], by simp [Op.operands], fun {M0 w0 M w fr} hr hf => by
    obtain ⟨v, h1, h2⟩ := hf.out t _ hx (.inr (by simp))
    exact op_move h1 ⟨M, StW.refl _ _ _, h2⟩⟩
theorem t_assignG {α : Type} {E : Enc α} {l : List α} {tag : Nat} {e : TypeId} {t : Nat} (hx : tlook G t = some (.gr E l tag e) := by rfl) : TOp P N ⟨d, .assign (.tmp t), ty, pos, aft, g⟩ G [] (.gr E l tag e) :=
  ⟨[.tmp t], by simp [Op.operands], fun {M0 w0 M w fr} hr hf => by
    obtain ⟨v, h1, h2⟩ := hf.out t _ hx (.inr (by simp))
    exact op_assign h1 ⟨M, StW.refl _ _ _, h2⟩⟩
theorem t_pickT {c x y : Operand} {p : Pub} (hc : topP G c = some (pB true) := by rfl) (hx : topP G x = some p := by rfl) : TOp P N ⟨d, .pick c x y, ty, pos, aft, g⟩ G [] (.pu p) :=
  .pure [c, x] (by simp [Op.operands]) fun hf => by
    obtain ⟨u, h0, rfl⟩ := hf.op hc (by simp)
    obtain ⟨v, h1, h2⟩ := hf.op hx (by simp)
    exact op_pick_t h0 h1 ⟨rfl, h2⟩
theorem t_pickF {c x y : Operand} {p : Pub} (hc : topP G c = some (pB false) := by rfl) (hy : topP G y = some p := by rfl) : TOp P N ⟨d, .pick c x y, ty, pos, aft, g⟩ G [] (.pu p) :=
  .pure [c, y] (by simp [Op.operands]) fun hf => by
    obtain ⟨u, h0, rfl⟩ := hf.op hc (by simp)
    obtain ⟨v, h1, h2⟩ := hf.op hy (by simp)
    exact op_pick_f h0 h1 ⟨rfl, h2⟩

section ints
variable {x y : Operand} {m n : Int} {t u : TypeId}
theorem t_add (hx : topP G x = some (pI m) := by rfl) (hy : topP G y = some (pI n) := by rfl) (hr : -9223372036854775808 ≤ m + n ∧ m + n ≤ 9223372036854775807 := by omega) :
    TOp P N ⟨d, .binOp .add t x y u, ty, pos, aft, g⟩ G [] (.pu (pI (m + n))) := .pure [x, y] (by simp [Op.operands]) fun hf => by
  obtain ⟨_, h0, rfl, _⟩ := hf.op hx (by simp)
  obtain ⟨_, h1, rfl, _⟩ := hf.op hy (by simp)
  exact op_add h0 h1 hr ⟨rfl, rfl, rng64 hr⟩
theorem t_sub (hx : topP G x = some (pI m) := by rfl) (hy : topP G y = some (pI n) := by rfl) (hr : -9223372036854775808 ≤ m - n ∧ m - n ≤ 9223372036854775807 := by omega) :
    TOp P N ⟨d, .binOp .sub t x y u, ty, pos, aft, g⟩ G [] (.pu (pI (m - n))) := .pure [x, y] (by simp [Op.operands]) fun hf => by
  obtain ⟨_, h0, rfl, _⟩ := hf.op hx (by simp)
  obtain ⟨_, h1, rfl, _⟩ := hf.op hy (by simp)
  exact op_sub h0 h1 hr ⟨rfl, rfl, rng64 hr⟩
theorem t_mul (hx : topP G x = some (pI m) := by rfl) (hy : topP G y = some (pI n) := by rfl) (hr : -9223372036854775808 ≤ m * n ∧ m * n ≤ 9223372036854775807 := by omega) :
    TOp P N ⟨d, .binOp .mul t x y u, ty, pos, aft, g⟩ G [] (.pu (pI (m * n))) := .pure [x, y] (by simp [Op.operands]) fun hf => by
  obtain ⟨_, h0, rfl, _⟩ := hf.op hx (by simp)
  obtain ⟨_, h1, rfl, _⟩ := hf.op hy (by simp)
  exact op_mul h0 h1 hr ⟨rfl, rfl, rng64 hr⟩
theorem tdiv_rng {m n : Int} (hm : I64 m) (hn : 0 < n) : -9223372036854775808 ≤ m.tdiv n ∧ m.tdiv n ≤ 9223372036854775807 := by
  unfold I64 at hm
  rcases Int.le_total 0 m with h | h
  · have h1 := Int.tdiv_nonneg h (Int.le_of_lt hn)
    have h2 := Int.tdiv_le_self n h
    omega
  · have e : m.tdiv n = -((-m).tdiv n) := by rw [Int.neg_tdiv, Int.neg_neg]
    have h1 := Int.tdiv_nonneg (show 0 ≤ -m by omega) (Int.le_of_lt hn)
    have h2 := Int.tdiv_le_self n (show 0 ≤ -m by omega)
    omega
theorem tmod_rng {m n : Int} (hn : 0 < n) : -n < m.tmod n ∧ m.tmod n < n := by
  have h1 := Int.lt_tmod_of_pos m hn
  have h2 := Int.tmod_lt_of_pos m hn
  omega
theorem t_quo (hx : topP G x = some (pI m) := by rfl) (hy : topP G y = some (pI n) := by rfl) (hn : 0 < n := by omega) :
    TOp P N ⟨d, .binOp .quo t x y u, ty, pos, aft, g⟩ G [] (.pu (pI (m.tdiv n))) := .pure [x, y] (by simp [Op.operands]) fun hf => by
  obtain ⟨_, h0, rfl, hm, _⟩ := hf.op hx (by simp)
  obtain ⟨_, h1, rfl, _⟩ := hf.op hy (by simp)
  have hr := tdiv_rng (hm rfl) hn
  exact op_quo h0 h1 (by omega) hr ⟨rfl, rfl, rng64 hr⟩
theorem t_rem (hx : topP G x = some (pI m) := by rfl) (hy : topP G y = some (pI n) := by rfl) (hn : 0 < n := by omega) :
    TOp P N ⟨d, .binOp .rem t x y u, ty, pos, aft, g⟩ G [] (.pu (pI (m.tmod n))) := .pure [x, y] (by simp [Op.operands]) fun hf => by
  obtain ⟨_, h0, rfl, hm, _⟩ := hf.op hx (by simp)
  obtain ⟨_, h1, rfl, hn2, _⟩ := hf.op hy (by simp)
  have h2 := tmod_rng (m := m) hn
  have h3 := hn2 rfl
  unfold I64 at h3
  exact op_rem h0 h1 (by omega) ⟨rfl, rfl, rng64 (by omega)⟩
theorem t_neg (hx : topP G x = some (pI m) := by rfl) (hr : -9223372036854775808 ≤ -m ∧ -m ≤ 9223372036854775807 := by omega) :
    TOp P N ⟨d, .unOp .neg t x, ty, pos, aft, g⟩ G [] (.pu (pI (-m))) := .pure [x] (by simp [Op.operands]) fun hf => by
  obtain ⟨_, h0, rfl, _⟩ := hf.op hx (by simp)
  exact op_neg h0 hr ⟨rfl, rfl, rng64 hr⟩
theorem t_not {b : Bool} (hx : topP G x = some (pB b) := by rfl) : TOp P N ⟨d, .unOp .not t x, ty, pos, aft, g⟩ G [] (.pu (pB (!b))) := .pure [x] (by simp [Op.operands]) fun hf => by
  obtain ⟨_, h0, rfl⟩ := hf.op hx (by simp)
  exact op_not h0 ⟨rfl, rfl⟩
theorem rng_min {k : IntKind} {m n : Int} (hm : Rng k m) (hn : Rng k n) : Rng k (min m n) := by
  rcases Int.le_total m n with h | h
  · rw [Int.min_eq_left h]; exact hm
  · rw [Int.min_eq_right h]; exact hn
theorem rng_max {k : IntKind} {m n : Int} (hm : Rng k m) (hn : Rng k n) : Rng k (max m n) := by
  rcases Int.le_total m n with h | h
  · rw [Int.max_eq_right h]; exact hn
  · rw [Int.max_eq_left h]; exact hm
theorem t_min {k : IntKind} {argT : Array TypeId} (hx : topP G x = some (pK k m) := by rfl) (hy : topP G y = some (pK k n) := by rfl) :
    TOp P N ⟨d, .call ⟨.builtin .min, #[x, y], argT⟩, ty, pos, aft, g⟩ G [] (.pu (pK k (min m n))) := .pure [x, y] (by simp [Op.operands, Call.operands]) fun hf => by
  obtain ⟨_, h0, rfl, hm⟩ := hf.op hx (by simp)
  obtain ⟨_, h1, rfl, hn⟩ := hf.op hy (by simp)
  exact op_min h0 h1 ⟨rfl, rfl, rng_min hm hn⟩
theorem t_max {k : IntKind} {argT : Array TypeId} (hx : topP G x = some (pK k m) := by rfl) (hy : topP G y = some (pK k n) := by rfl) :
    TOp P N ⟨d, .call ⟨.builtin .max, #[x, y], argT⟩, ty, pos, aft, g⟩ G [] (.pu (pK k (max m n))) := .pure [x, y] (by simp [Op.operands, Call.operands]) fun hf => by
  obtain ⟨_, h0, rfl, hm⟩ := hf.op hx (by simp)
  obtain ⟨_, h1, rfl, hn⟩ := hf.op hy (by simp)
  exact op_max h0 h1 ⟨rfl, rfl, rng_max hm hn⟩
theorem t_lss {k : IntKind} (hx : topP G x = some (pK k m) := by rfl) (hy : topP G y = some (pK k n) := by rfl) : TOp P N ⟨d, .binOp .lss t x y u, ty, pos, aft, g⟩ G [] (.pu (pB (decide (m < n)))) := .pure [x, y] (by simp [Op.operands]) fun hf => by
  obtain ⟨_, h0, rfl, hm⟩ := hf.op hx (by simp)
  obtain ⟨_, h1, rfl, hn⟩ := hf.op hy (by simp)
  exact op_lss h0 h1 ⟨rfl, rfl⟩
theorem t_leq {k : IntKind} (hx : topP G x = some (pK k m) := by rfl) (hy : topP G y = some (pK k n) := by rfl) : TOp P N ⟨d, .binOp .leq t x y u, ty, pos, aft, g⟩ G [] (.pu (pB (decide (m ≤ n)))) := .pure [x, y] (by simp [Op.operands]) fun hf => by
  obtain ⟨_, h0, rfl, hm⟩ := hf.op hx (by simp)
  obtain ⟨_, h1, rfl, hn⟩ := hf.op hy (by simp)
  exact op_leq h0 h1 ⟨rfl, rfl⟩
theorem t_gtr {k : IntKind} (hx : topP G x = some (pK k m) := by rfl) (hy : topP G y = some (pK k n) := by rfl) : TOp P N ⟨d, .binOp .gtr t x y u, ty, pos, aft, g⟩ G [] (.pu (pB (decide (n < m)))) := .pure [x, y] (by simp [Op.operands]) fun hf => by
  obtain ⟨_, h0, rfl, hm⟩ := hf.op hx (by simp)
  obtain ⟨_, h1, rfl, hn⟩ := hf.op hy (by simp)
  exact op_gtr h0 h1 ⟨rfl, rfl⟩
theorem t_geq {k : IntKind} (hx : topP G x = some (pK k m) := by rfl) (hy : topP G y = some (pK k n) := by rfl) : TOp P N ⟨d, .binOp .geq t x y u, ty, pos, aft, g⟩ G [] (.pu (pB (decide (n ≤ m)))) := .pure [x, y] (by simp [Op.operands]) fun hf => by
  obtain ⟨_, h0, rfl, hm⟩ := hf.op hx (by simp)
  obtain ⟨_, h1, rfl, hn⟩ := hf.op hy (by simp)
  exact op_geq h0 h1 ⟨rfl, rfl⟩
theorem t_eql {k : IntKind} (hx : topP G x = some (pK k m) := by rfl) (hy : topP G y = some (pK k n) := by rfl) : TOp P N ⟨d, .binOp .eql t x y u, ty, pos, aft, g⟩ G [] (.pu (pB (decide (m = n)))) := .pure [x, y] (by simp [Op.operands]) fun hf => by
  obtain ⟨_, h0, rfl, hm⟩ := hf.op hx (by simp)
  obtain ⟨_, h1, rfl, hn⟩ := hf.op hy (by simp)
  exact op_eql h0 h1 ⟨rfl, rfl⟩
theorem t_neq {k : IntKind} (hx : topP G x = some (pK k m) := by rfl) (hy : topP G y = some (pK k n) := by rfl) : TOp P N ⟨d, .binOp .neq t x y u, ty, pos, aft, g⟩ G [] (.pu (pB (decide (m ≠ n)))) := .pure [x, y] (by simp [Op.operands]) fun hf => by
  obtain ⟨_, h0, rfl, hm⟩ := hf.op hx (by simp)
  obtain ⟨_, h1, rfl, hn⟩ := hf.op hy (by simp)
  exact op_neq h0 h1 ⟨rfl, rfl⟩
/-- A test that is known. -/
theorem TOp.yes {o : Oper} {W : List Nat} {p : Prop} [Decidable p] (h : TOp P N o G W (.pu (pB (decide p)))) (hp : p) : TOp P N o G W (.pu (pB true)) := by rwa [decide_eq_true hp] at h
theorem TOp.no {o : Oper} {W : List Nat} {p : Prop} [Decidable p] (h : TOp P N o G W (.pu (pB (decide p)))) (hp : ¬ p) : TOp P N o G W (.pu (pB false)) := by rwa [decide_eq_false hp] at h
theorem t_lssT {k : IntKind} (hx : topP G x = some (pK k m) := by rfl) (hy : topP G y = some (pK k n) := by rfl) (h : m < n := by omega) : TOp P N ⟨d, .binOp .lss t x y u, ty, pos, aft, g⟩ G [] (.pu (pB true)) := (t_lss hx hy).yes h
theorem t_lssF {k : IntKind} (hx : topP G x = some (pK k m) := by rfl) (hy : topP G y = some (pK k n) := by rfl) (h : n ≤ m := by omega) : TOp P N ⟨d, .binOp .lss t x y u, ty, pos, aft, g⟩ G [] (.pu (pB false)) := (t_lss hx hy).no (by omega)
theorem t_leqT {k : IntKind} (hx : topP G x = some (pK k m) := by rfl) (hy : topP G y = some (pK k n) := by rfl) (h : m ≤ n := by omega) : TOp P N ⟨d, .binOp .leq t x y u, ty, pos, aft, g⟩ G [] (.pu (pB true)) := (t_leq hx hy).yes h
theorem t_leqF {k : IntKind} (hx : topP G x = some (pK k m) := by rfl) (hy : topP G y = some (pK k n) := by rfl) (h : n < m := by omega) : TOp P N ⟨d, .binOp .leq t x y u, ty, pos, aft, g⟩ G [] (.pu (pB false)) := (t_leq hx hy).no (by omega)
theorem t_gtrT {k : IntKind} (hx : topP G x = some (pK k m) := by rfl) (hy : topP G y = some (pK k n) := by rfl) (h : n < m := by omega) : TOp P N ⟨d, .binOp .gtr t x y u, ty, pos, aft, g⟩ G [] (.pu (pB true)) := (t_gtr hx hy).yes h
theorem t_gtrF {k : IntKind} (hx : topP G x = some (pK k m) := by rfl) (hy : topP G y = some (pK k n) := by rfl) (h : m ≤ n := by omega) : TOp P N ⟨d, .binOp .gtr t x y u, ty, pos, aft, g⟩ G [] (.pu (pB false)) := (t_gtr hx hy).no (by omega)
theorem t_geqT {k : IntKind} (hx : topP G x = some (pK k m) := by rfl) (hy : topP G y = some (pK k n) := by rfl) (h : n ≤ m := by omega) : TOp P N ⟨d, .binOp .geq t x y u, ty, pos, aft, g⟩ G [] (.pu (pB true)) := (t_geq hx hy).yes h
theorem t_geqF {k : IntKind} (hx : topP G x = some (pK k m) := by rfl) (hy : topP G y = some (pK k n) := by rfl) (h : m < n := by omega) : TOp P N ⟨d, .binOp .geq t x y u, ty, pos, aft, g⟩ G [] (.pu (pB false)) := (t_geq hx hy).no (by omega)
theorem t_eqlT {k : IntKind} (hx : topP G x = some (pK k m) := by rfl) (hy : topP G y = some (pK k n) := by rfl) (h : m = n := by omega) : TOp P N ⟨d, .binOp .eql t x y u, ty, pos, aft, g⟩ G [] (.pu (pB true)) := (t_eql hx hy).yes h
theorem t_eqlF {k : IntKind} (hx : topP G x = some (pK k m) := by rfl) (hy : topP G y = some (pK k n) := by rfl) (h : m ≠ n := by omega) : TOp P N ⟨d, .binOp .eql t x y u, ty, pos, aft, g⟩ G [] (.pu (pB false)) := (t_eql hx hy).no h
theorem t_neqT {k : IntKind} (hx : topP G x = some (pK k m) := by rfl) (hy : topP G y = some (pK k n) := by rfl) (h : m ≠ n := by omega) : TOp P N ⟨d, .binOp .neq t x y u, ty, pos, aft, g⟩ G [] (.pu (pB true)) := (t_neq hx hy).yes h
theorem t_neqF {k : IntKind} (hx : topP G x = some (pK k m) := by rfl) (hy : topP G y = some (pK k n) := by rfl) (h : m = n := by omega) : TOp P N ⟨d, .binOp .neq t x y u, ty, pos, aft, g⟩ G [] (.pu (pB false)) := (t_neq hx hy).no (by omega)
end ints

theorem t_ext0 {x : Operand} {p q : Pub} (hx : topP G x = some (pT2 p q) := by rfl) : TOp P N ⟨d, .extract x 0, ty, pos, aft, g⟩ G [] (.pu p) := .pure [x] (by simp [Op.operands]) fun hf => by
  obtain ⟨_, h0, v, u, rfl, h1, h2⟩ := hf.op hx (by simp)
  exact op_extract (vs := [v, u]) h0 rfl ⟨rfl, h1⟩
theorem t_ext1 {x : Operand} {p q : Pub} (hx : topP G x = some (pT2 p q) := by rfl) : TOp P N ⟨d, .extract x 1, ty, pos, aft, g⟩ G [] (.pu q) := .pure [x] (by simp [Op.operands]) fun hf => by
  obtain ⟨_, h0, v, u, rfl, h1, h2⟩ := hf.op hx (by simp)
  exact op_extract (vs := [v, u]) h0 rfl ⟨rfl, h2⟩
theorem t_ext30 {x : Operand} {p q r : Pub} (hx : topP G x = some (pT3 p q r) := by rfl) : TOp P N ⟨d, .extract x 0, ty, pos, aft, g⟩ G [] (.pu p) := .pure [x] (by simp [Op.operands]) fun hf => by
  obtain ⟨_, h0, v, u, s, rfl, h1, h2, h3⟩ := hf.op hx (by simp)
  exact op_extract (vs := [v, u, s]) h0 rfl ⟨rfl, h1⟩
theorem t_ext31 {x : Operand} {p q r : Pub} (hx : topP G x = some (pT3 p q r) := by rfl) : TOp P N ⟨d, .extract x 1, ty, pos, aft, g⟩ G [] (.pu q) := .pure [x] (by simp [Op.operands]) fun hf => by
  obtain ⟨_, h0, v, u, s, rfl, h1, h2, h3⟩ := hf.op hx (by simp)
  exact op_extract (vs := [v, u, s]) h0 rfl ⟨rfl, h2⟩
theorem t_ext32 {x : Operand} {p q r : Pub} (hx : topP G x = some (pT3 p q r) := by rfl) : TOp P N ⟨d, .extract x 2, ty, pos, aft, g⟩ G [] (.pu r) := .pure [x] (by simp [Op.operands]) fun hf => by
  obtain ⟨_, h0, v, u, s, rfl, h1, h2, h3⟩ := hf.op hx (by simp)
  exact op_extract (vs := [v, u, s]) h0 rfl ⟨rfl, h3⟩

theorem t_call {f : FuncId} {args : List Operand} {argT : Array TypeId} {Ps : List Pub} {Q : Pub} (ha : topPs G args = some Ps := by rfl) (h : Fn P f Ps Q) :
    TOp P N ⟨d, .call ⟨.value (.func f), args.toArray, argT⟩, ty, pos, aft, g⟩ G [] (.pu Q) := .up args (by simp [Op.operands, Call.operands]; intro x hx; exact .inr hx) fun {M0 w0 M w fr} hr hf => by
  obtain ⟨vs, h1, h2⟩ := hf.ops ha (fun _ h => h)
  exact op_call h.ent h1 (h.run M w vs hr.mb h2) fun v w' hv => ⟨hv.2, hv.1⟩

/-! slices, read -/

theorem t_len {α : Type} {E : Enc α} {x : Operand} {l : List α} {t e : TypeId} (hx : topP G x = some (pSl E l) := by rfl) (ht : USl P t e := by infer_instance) :
    TOp P N ⟨d, .call ⟨.builtin .len, #[x], #[t]⟩, ty, pos, aft, g⟩ G [] (.pu (pI l.length)) := .pure [x] (by simp [Op.operands, Call.operands]) fun hf => by
  obtain ⟨v, h0, h1⟩ := hf.op hx (by simp)
  have hl := h1.le
  exact op_len ht.out h0 h1 ⟨rfl, rfl, rng64 (by omega)⟩
theorem t_lenN {x : Operand} {t e : TypeId} (hx : topP G x = some (pv (.slice none 0 0)) := by rfl) (ht : USl P t e := by infer_instance) :
    TOp P N ⟨d, .call ⟨.builtin .len, #[x], #[t]⟩, ty, pos, aft, g⟩ G [] (.pu (pI 0)) := .pure [x] (by simp [Op.operands, Call.operands]) fun hf => by
  obtain ⟨v, h0, rfl⟩ := hf.op hx (by simp)
  exact op_lenv ht.out h0 ⟨rfl, rfl, rng64 (by omega)⟩
theorem t_lenR {x : Operand} {b n : Nat} {t e : TypeId} (hx : topP G x = some (pSr b n) := by rfl) (hn : n ≤ 9223372036854775807 := by omega) (ht : USl P t e := by infer_instance) :
    TOp P N ⟨d, .call ⟨.builtin .len, #[x], #[t]⟩, ty, pos, aft, g⟩ G [] (.pu (pI n)) := .pure [x] (by simp [Op.operands, Call.operands]) fun hf => by
  obtain ⟨v, h0, rfl⟩ := hf.op hx (by simp)
  exact op_lenv ht.out h0 ⟨rfl, rfl, rng64 (by omega)⟩
theorem t_idxN {α : Type} {E : Enc α} {x i : Operand} {l : List α} {t e : TypeId} {k : IntKind} {n : Nat} (hx : topP G x = some (pSl E l) := by rfl) (hi : topP G i = some (pK k (n : Int)) := by rfl)
    (ht : USl P t e := by infer_instance) (hE : TEc P e E := by infer_instance) (hn : n < l.length := by omega) :
    TOp P N ⟨d, .indexAddr t x i, ty, pos, aft, g⟩ G [] (.pu (pPtr E l[n])) := .pure [x, i] (by simp [Op.operands]) fun hf => by
  obtain ⟨v, h0, h1⟩ := hf.op hx (by simp)
  obtain ⟨_, h2, rfl, _⟩ := hf.op hi (by simp)
  exact op_indexAddr ht.out hE.out h0 h2 h1 (by omega) fun ad _ he => ⟨rfl, ad, rfl, he⟩
theorem t_idx {α : Type} {E : Enc α} {x i : Operand} {l : List α} {t e : TypeId} {k : IntKind} {n : Int} (hx : topP G x = some (pSl E l) := by rfl) (hi : topP G i = some (pK k n) := by rfl)
    (ht : USl P t e := by infer_instance) (hE : TEc P e E := by infer_instance) (h0 : 0 ≤ n := by omega) (hn : n.toNat < l.length := by omega) :
    TOp P N ⟨d, .indexAddr t x i, ty, pos, aft, g⟩ G [] (.pu (pPtr E l[n.toNat])) := .pure [x, i] (by simp [Op.operands]) fun hf => by
  obtain ⟨v, k0, k1⟩ := hf.op hx (by simp)
  obtain ⟨_, k2, rfl, _⟩ := hf.op hi (by simp)
  exact op_indexAddr ht.out hE.out k0 k2 k1 (by omega) fun ad _ he => ⟨rfl, ad, rfl, he⟩
theorem t_idxE {α : Type} {E : Enc α} {x i : Operand} {l : List α} {t e : TypeId} {k : IntKind} {m : Int} {n : Nat} (hx : topP G x = some (pSl E l) := by rfl) (hi : topP G i = some (pK k m) := by rfl) (hm : m = n)
    (ht : USl P t e := by infer_instance) (hE : TEc P e E := by infer_instance) (hn : n < l.length := by omega) :
    TOp P N ⟨d, .indexAddr t x i, ty, pos, aft, g⟩ G [] (.pu (pPtr E l[n])) := by subst hm; exact t_idxN hx hi ht hE hn
theorem t_load {α : Type} {E : Enc α} {x : Operand} {a : α} {t : TypeId} {Q : α → Pub} (hx : topP G x = some (pPtr E a) := by rfl) (hE : TEc P t E := by infer_instance) (hQ : LDc E Q := by infer_instance) :
    TOp P N ⟨d, .load t x, ty, pos, aft, g⟩ G [] (.pu (Q a)) := .pure [x] (by simp [Op.operands]) fun hf => by
  obtain ⟨_, h0, ad, rfl, h1⟩ := hf.op hx (by simp)
  exact op_load hE.out h0 h1 fun v hv => ⟨rfl, hQ.out hv⟩
theorem t_fa {α β : Type} {E : Enc α} {E' : Enc β} {x : Operand} {a : α} {s : TypeId} {f : Nat} {pr : α → β} {st : α → β → α} (hx : topP G x = some (pPtr E a) := by rfl) (hF : FDc P s f E E' pr st := by infer_instance) :
    TOp P N ⟨d, .fieldAddr s x f, ty, pos, aft, g⟩ G [] (.pu (pPtr E' (pr a))) := .pure [x] (by simp [Op.operands]) fun hf => by
  obtain ⟨_, h0, ad, rfl, h1⟩ := hf.op hx (by simp)
  obtain ⟨off, k1, k2, _⟩ := hF.out
  exact op_fieldAddr k1 h0 ⟨rfl, _, rfl, k2 h1⟩
theorem t_fv {α : Type} {E : Enc α} {x : Operand} {a : α} {s : TypeId} {f : Nat} {Q : α → Pub} (hx : topP G x = some (pV E a) := by rfl) (hF : FVc P s f E Q := by infer_instance) :
    TOp P N ⟨d, .field s x f, ty, pos, aft, g⟩ G [] (.pu (Q a)) := .pure [x] (by simp [Op.operands]) fun hf => by
  obtain ⟨_, h0, h1⟩ := hf.op hx (by simp)
  exact hF.out h0 h1 fun u hu => ⟨rfl, hu⟩
theorem t_bl {α : Type} {E : Enc α} {a : α} {t : TypeId} {parts : List (Nat × Operand)} {idx : List Nat} {Qs : List Pub} (hi : parts.map (·.1) = idx := by rfl) (hx : topPs G (parts.map (·.2)) = some Qs := by rfl)
    (hB : BLc P t idx Qs E a := by infer_instance) : TOp P N ⟨d, .build t parts.toArray, ty, pos, aft, g⟩ G [] (.pu (pV E a)) := .pure (parts.map (·.2)) (by simp [Op.operands]) fun hf => by
  obtain ⟨vs, h1, h2⟩ := hf.ops hx (fun _ h => h)
  exact hB.out hi h1 h2 fun u hu => ⟨rfl, hu⟩
theorem t_sliceLH {α : Type} {E : Enc α} {x lo hi : Operand} {l : List α} {t e : TypeId} {k k' : IntKind} {m n : Int} (hx : topP G x = some (pSl E l) := by rfl) (h1 : topP G lo = some (pK k m) := by rfl) (h2 : topP G hi = some (pK k' n) := by rfl)
    (ht : USl P t e := by infer_instance) (hE : TEc P e E := by infer_instance) (hb : 0 ≤ m ∧ m ≤ n ∧ n ≤ l.length := by omega) :
    TOp P N ⟨d, .slice t x (some lo) (some hi) none, ty, pos, aft, g⟩ G [] (.pu (pSl E ((l.drop m.toNat).take (n.toNat - m.toNat)))) := .pure [x, lo, hi] (by simp [Op.operands]) fun hf => by
  obtain ⟨_, k0, k1⟩ := hf.op hx (by simp)
  obtain ⟨_, k2, rfl, _⟩ := hf.op h1 (by simp)
  obtain ⟨_, k3, rfl, _⟩ := hf.op h2 (by simp)
  exact op_slice_lh ht.out hE.out k0 k2 k3 k1 hb fun v hv => ⟨rfl, hv⟩
theorem t_sliceL {α : Type} {E : Enc α} {x lo : Operand} {l : List α} {t e : TypeId} {k : IntKind} {m : Int} (hx : topP G x = some (pSl E l) := by rfl) (h1 : topP G lo = some (pK k m) := by rfl)
    (ht : USl P t e := by infer_instance) (hE : TEc P e E := by infer_instance) (hb : 0 ≤ m ∧ m ≤ l.length := by omega) :
    TOp P N ⟨d, .slice t x (some lo) none none, ty, pos, aft, g⟩ G [] (.pu (pSl E (l.drop m.toNat))) := .pure [x, lo] (by simp [Op.operands]) fun hf => by
  obtain ⟨_, k0, k1⟩ := hf.op hx (by simp)
  obtain ⟨_, k2, rfl, _⟩ := hf.op h1 (by simp)
  exact op_slice_l ht.out hE.out k0 k2 k1 hb fun v hv => ⟨rfl, hv⟩
theorem t_sliceH {α : Type} {E : Enc α} {x hi : Operand} {l : List α} {t e : TypeId} {k : IntKind} {n : Int} (hx : topP G x = some (pSl E l) := by rfl) (h1 : topP G hi = some (pK k n) := by rfl)
    (ht : USl P t e := by infer_instance) (hE : TEc P e E := by infer_instance) (hb : 0 ≤ n ∧ n ≤ l.length := by omega) :
    TOp P N ⟨d, .slice t x none (some hi) none, ty, pos, aft, g⟩ G [] (.pu (pSl E (l.take n.toNat))) := .pure [x, hi] (by simp [Op.operands]) fun hf => by
  obtain ⟨_, k0, k1⟩ := hf.op hx (by simp)
  obtain ⟨_, k2, rfl, _⟩ := hf.op h1 (by simp)
  exact op_slice_h ht.out hE.out k0 k2 k1 hb fun v hv => ⟨rfl, hv⟩
theorem t_sliceLHN {α : Type} {E : Enc α} {x lo hi : Operand} {l : List α} {t e : TypeId} {k k' : IntKind} {m n : Nat} (hx : topP G x = some (pSl E l) := by rfl) (h1 : topP G lo = some (pK k (m : Int)) := by rfl) (h2 : topP G hi = some (pK k' (n : Int)) := by rfl)
    (ht : USl P t e := by infer_instance) (hE : TEc P e E := by infer_instance) (hb : m ≤ n ∧ n ≤ l.length := by omega) :
    TOp P N ⟨d, .slice t x (some lo) (some hi) none, ty, pos, aft, g⟩ G [] (.pu (pSl E ((l.drop m).take (n - m)))) := t_sliceLH hx h1 h2 ht hE (by omega)
theorem t_sliceLN {α : Type} {E : Enc α} {x lo : Operand} {l : List α} {t e : TypeId} {k : IntKind} {m : Nat} (hx : topP G x = some (pSl E l) := by rfl) (h1 : topP G lo = some (pK k (m : Int)) := by rfl)
    (ht : USl P t e := by infer_instance) (hE : TEc P e E := by infer_instance) (hb : m ≤ l.length := by omega) :
    TOp P N ⟨d, .slice t x (some lo) none none, ty, pos, aft, g⟩ G [] (.pu (pSl E (l.drop m))) := t_sliceL hx h1 ht hE (by omega)
theorem t_sliceHN {α : Type} {E : Enc α} {x hi : Operand} {l : List α} {t e : TypeId} {k : IntKind} {n : Nat} (hx : topP G x = some (pSl E l) := by rfl) (h1 : topP G hi = some (pK k (n : Int)) := by rfl)
    (ht : USl P t e := by infer_instance) (hE : TEc P e E := by infer_instance) (hb : n ≤ l.length := by omega) :
    TOp P N ⟨d, .slice t x none (some hi) none, ty, pos, aft, g⟩ G [] (.pu (pSl E (l.take n))) := t_sliceH hx h1 ht hE (by omega)
/-- x[lo:] of a slice that may be appended to. -/
theorem t_sliceG {α : Type} {E : Enc α} {lo : Operand} {s : Nat} {l : List α} {tag : Nat} {t e : TypeId} {k : IntKind} {m : Int} (hx : tlook G s = some (.gr E l tag e) := by rfl) (h1 : topP G lo = some (pK k m) := by rfl)
    (ht : USl P t e := by infer_instance) (hE : TEc P e E := by infer_instance) (hb : 0 ≤ m ∧ m ≤ l.length := by omega) :
    TOp P N ⟨d, .slice t (.tmp s) (some lo) none none, ty, pos, aft, g⟩ G [] (.gr E (l.drop m.toNat) tag e) := ⟨[.tmp s, lo], by simp [Op.operands], fun {M0 w0 M w fr} hr hf => by
  obtain ⟨v, k0, k1, k2⟩ := hf.out s _ hx (.inr (by simp))
  obtain ⟨_, k3, rfl, _⟩ := hf.op h1 (by simp)
  exact op_slice_lG ht.out hE.out k0 k3 k1 k2 hb fun v' h1 h2 => ⟨M, StW.refl _ _ _, h1, h2⟩⟩

/-! slices, made -/

theorem t_bs {α : Type} {E : Enc α} {l : List α} {t e : TypeId} {n : Nat} {parts : List (Nat × Operand)} {Qs : List Pub} (hi : parts.map (·.1) = List.range' 0 n := by rfl) (hx : topPs G (parts.map (·.2)) = some Qs := by rfl)
    (ht : USl P t e := by infer_instance) (hE : TEc P e E := by infer_instance) (hv : PEL E Qs l := by infer_instance) (hn : n = l.length := by rfl)
    (hb : (l.length * E.sz ≤ 16777216 ∧ l.length * E.by_ ≤ 140737488351232) := by exact ⟨Nat.le_of_ble_eq_true rfl, Nat.le_of_ble_eq_true rfl⟩) : TOp P N ⟨d, .buildSlice t n parts.toArray, ty, pos, aft, g⟩ G [] (.pu (pSl E l)) := .up (parts.map (·.2)) (by simp [Op.operands]) fun {M0 w0 M w fr} hr hf => by
  obtain ⟨vs, h1, h2⟩ := hf.ops hx (fun _ h => h)
  exact op_buildSlice ht.out hE.out hr hi h1 (hv.out h2) hn hb fun v w' k1 _ k2 => ⟨k2, k1⟩
theorem t_app {α : Type} {E : Enc α} {y : Operand} {s tag by' : Nat} {l l2 : List α} {t e : TypeId} (hx : tlook G s = some (.gr E l tag e) := by rfl) (hy : topP G y = some (pSl E l2) := by rfl)
    (ht : USl P t e := by infer_instance) (hE : TEc P e E := by infer_instance) (hb : BYc E by' := by infer_instance)
    (hl : (l.length + l2.length) * by' ≤ 140737488351232 := by first | omega | (simp only [List.length_append, List.length_cons, List.length_nil, List.length_map, List.length_take, List.length_drop, List.length_replicate, List.length_range]; omega)) :
    TOp P N ⟨d, .call ⟨.builtin .append, #[.tmp s, y], #[t, t]⟩, ty, pos, aft, g⟩ G [tag] (.gr E (l ++ l2) tag e) := ⟨[.tmp s, y], by simp [Op.operands, Call.operands], fun {M0 w0 M w fr} hr hf => by
  obtain ⟨v, k0, k1, k2⟩ := hf.out s _ hx (.inr (by simp))
  obtain ⟨u, k3, k4⟩ := hf.op hy (by simp)
  exact op_append ht.out hE.out k0 k3 hr k1 k2 k4 (by rw [hb.out]; exact hl) fun v' w' M' h1 h2 h3 => ⟨M', StW.st h3, h1, h2⟩⟩
/-- append to a slice that is nil. -/
theorem t_appN {α : Type} {E : Enc α} {x y : Operand} {l2 : List α} {t e : TypeId} (tag : Nat) (hx : topP G x = some (pv (.slice none 0 0)) := by rfl) (hy : topP G y = some (pSl E l2) := by rfl)
    (ht : USl P t e := by infer_instance) (hE : TEc P e E := by infer_instance) :
    TOp P N ⟨d, .call ⟨.builtin .append, #[x, y], #[t, t]⟩, ty, pos, aft, g⟩ G [tag] (.gr E l2 tag e) := ⟨[x, y], by simp [Op.operands, Call.operands], fun {M0 w0 M w fr} hr hf => by
  obtain ⟨_, k0, rfl⟩ := hf.op hx (by simp)
  obtain ⟨u, k3, k4⟩ := hf.op hy (by simp)
  exact op_append ht.out hE.out k0 k3 hr (SlOf.nil E M w) Grow.nil k4 (by have := k4.bytes; simpa using this) fun v' w' M' h1 h2 h3 => ⟨M', StW.st h3, h1, h2⟩⟩
theorem t_mkZ {α : Type} {E : Enc α} {x y : Operand} {t e : TypeId} {k k' : IntKind} {n : Int} {x0 : α} {by' : Nat} (hx : topP G x = some (pK k n) := by rfl) (hy : topP G y = some (pK k' n) := by rfl) (ht : USl P t e := by infer_instance) (hE : TEc P e E := by infer_instance)
    (hz : ZEc P e E x0 := by infer_instance) (hb : BYc E by' := by infer_instance) (h0 : 0 ≤ n := by omega) (hl : by' * n.toNat ≤ 140737488351232 := by omega) (h63 : n ≤ 9223372036854775807 := by omega) :
    TOp P N ⟨d, .makeSlice t x y, ty, pos, aft, g⟩ G [] (.pu (pSl E (List.replicate n.toNat x0))) := .up [x, y] (by simp [Op.operands]) fun {M0 w0 M w fr} hr hf => by
  obtain ⟨_, k0, rfl, _⟩ := hf.op hx (by simp)
  obtain ⟨_, k1, rfl, _⟩ := hf.op hy (by simp)
  obtain ⟨z, z1, z2⟩ := hz.out
  exact op_makeZ ht.out z1 z2 k0 k1 hr h0 (by rw [hb.out]; exact hl) h63 fun v w' h1 h2 => ⟨h2, h1⟩

/-! rows that are written -/

theorem t_idxR {α : Type} {E : Enc α} {x i : Operand} {b len tag : Nat} {l : List α} {t e : TypeId} {k : IntKind} {n : Int} (key : Nat) (hx : topP G x = some (pSr b len) := by rfl) (hi : topP G i = some (pK k n) := by rfl)
    (hg : tlook G key = some (.rw b tag E l e) := by rfl) (ht : USl P t e := by infer_instance) (hE : TEc P e E := by infer_instance) (h0 : 0 ≤ n ∧ n < len := by omega) :
    TOp P N ⟨d, .indexAddr t x i, ty, pos, aft, g⟩ G [] (.pu (pRo b E n.toNat)) := .pure [x, i] (by simp [Op.operands]) fun {B M w fr} hf => by
  obtain ⟨_, k0, rfl⟩ := hf.op hx (by simp)
  obtain ⟨_, k2, rfl, _⟩ := hf.op hi (by simp)
  obtain ⟨_, css, _, hbx⟩ := hf.out key _ hg (.inl rfl)
  obtain ⟨z, _, hT⟩ := hE.out
  exact op_indexBox ht.out hT k0 k2 hbx h0 ⟨rfl, rfl⟩

theorem t_loadR {α : Type} {E : Enc α} {x : Operand} {b tag i : Nat} {l : List α} {t e' : TypeId} {Q : α → Pub} (key : Nat) (hx : topP G x = some (pRo b E i) := by rfl) (hg : tlook G key = some (.rw b tag E l e') := by rfl)
    (hE : TEc P t E := by infer_instance) (hQ : LDc E Q := by infer_instance) (hi : i < l.length := by first | omega | (simp; done) | (simp; omega)) : TOp P N ⟨d, .load t x, ty, pos, aft, g⟩ G [] (.pu (Q l[i])) := .pure [x] (by simp [Op.operands]) fun {B M w fr} hf => by
  obtain ⟨_, k0, rfl⟩ := hf.op hx (by simp)
  obtain ⟨_, css, hc, hbx⟩ := hf.out key _ hg (.inl rfl)
  obtain ⟨z, hz, hT⟩ := hE.out
  obtain ⟨cs, c1, c2⟩ := hc.get i hi
  have hl := E.len c1
  have hV : E.V M w (mkv E.agg cs) l[i] := ⟨cs, c1, rfl⟩
  have hcss := hc.len
  have hle : i * E.sz + E.sz ≤ css.length := by
    rw [hcss, ← Nat.succ_mul]
    exact Nat.mul_le_mul_right _ hi
  cases ha : E.agg
  · rw [ha] at hT hV
    rw [E.one1 ha] at hl
    match cs, hl, c2, hV with
    | [c], _, c2, hV =>
      exact op_load1 hT k0 hbx (v := c) (by simpa using c2 0 c rfl) ⟨rfl, hQ.out hV⟩
  · rw [ha] at hT hV
    refine op_loadn hT k0 hbx hle ⟨rfl, hQ.out ?_⟩
    have e : (css.drop (i * E.sz)).take E.sz = cs := by
      apply List.ext_getElem?
      intro j
      rw [List.getElem?_take]
      split
      · rename_i hj
        rw [List.getElem?_drop]
        have hj' : j < cs.length := by omega
        rw [List.getElem?_eq_getElem hj']
        exact c2 j _ (List.getElem?_eq_getElem hj')
      · rw [List.getElem?_eq_none]; omega
    rw [e]
    simpa [mkv] using hV

/-! variables in memory, cell by cell -/

/-- A parameter that is laid in memory and never written. -/
theorem t_boxP {α : Type} {E : Enc α} {e : TypeId} {x : Operand} {p : Pub} {x0 : α} (hx : topP G x = some p := by rfl) (hE : TEc P e E := by infer_instance) (hp : PEc p E x0 := by infer_instance) :
    TOp P N ⟨d, .box e x, ty, pos, aft, g⟩ G [] (.pu (pPtr E x0)) := ⟨[x], by simp [Op.operands], fun {M0 w0 M w fr} hr hf => by
  obtain ⟨v, k0, k1⟩ := hf.op hx (by simp)
  obtain ⟨cs, c1, c2⟩ := hp.out k1
  have hc : v.cells = cs.toArray := by rw [c2]; exact mkv_cells c1
  have hbel := below_alloc w (.cells cs.toArray e)
  refine OP.val (v := .pointer (some ⟨w.heap.size, 0, none⟩)) (w' := w.alloc (.cells cs.toArray e)) (fun a ha => ?_) ⟨M, StW.up hr.size (UpM.of_below hbel), _, rfl, cs, E.mono c1 (X.of_below hbel), fun j c hj => ?_⟩
  · simp [execOp, ha.eval k0, Instr.box, newVar, newRow, hc]
  · rw [Addr.add_lit, Nat.zero_add]
    refine ⟨?_, fun p hp => by rw [hr.mb _ (Nat.le_refl _)] at hp; cases hp⟩
    rw [cell_of_row _ _ j _ e (0, 0) (heap_alloc_new w _)]
    simpa using hj⟩
theorem t_faB {x : Operand} {b off fo : Nat} {s : TypeId} {f : Nat} (hx : topP G x = some (pCe b off) := by rfl) (hF : FOc P s f fo := by infer_instance) : TOp P N ⟨d, .fieldAddr s x f, ty, pos, aft, g⟩ G [] (.pu (pCe b (off + fo))) := .pure [x] (by simp [Op.operands]) fun hf => by
  obtain ⟨_, h0, rfl⟩ := hf.op hx (by simp)
  exact op_fieldBox hF.out h0 ⟨rfl, rfl⟩
theorem t_loadB {x : Operand} {b off tag : Nat} {cs : List Value} {t e : TypeId} {v : Value} (key : Nat) (hx : topP G x = some (pCe b off) := by rfl) (hg : tlook G key = some (.bx b tag cs e) := by rfl) (hT : T1c P t := by infer_instance) (hv : cs[off]? = some v := by rfl) :
    TOp P N ⟨d, .load t x, ty, pos, aft, g⟩ G [] (.pu (pv v)) := .pure [x] (by simp [Op.operands]) fun {B M w fr} hf => by
  obtain ⟨_, h0, rfl⟩ := hf.op hx (by simp)
  obtain ⟨_, hbx⟩ := hf.out key _ hg (.inl rfl)
  obtain ⟨by', z, hTD⟩ := hT.out
  exact op_load1 hTD h0 hbx hv ⟨rfl, rfl⟩
/-- append to a slice that is known by its value. -/
theorem t_appV {α : Type} {E : Enc α} {x y : Operand} {v : Value} {tag by' : Nat} {l l2 : List α} {t e : TypeId} (key : Nat) (hx : topP G x = some (pv v) := by rfl) (hg : tlook G key = some (.gv v E l tag e) := by rfl) (hy : topP G y = some (pSl E l2) := by rfl)
    (ht : USl P t e := by infer_instance) (hE : TEc P e E := by infer_instance) (hb : BYc E by' := by infer_instance)
    (hl : (l.length + l2.length) * by' ≤ 140737488351232 := by first | omega | (simp only [List.length_append, List.length_cons, List.length_nil, List.length_map, List.length_take, List.length_drop, List.length_replicate, List.length_range]; omega)) :
    TOp P N ⟨d, .call ⟨.builtin .append, #[x, y], #[t, t]⟩, ty, pos, aft, g⟩ G [tag] (.gr E (l ++ l2) tag e) := ⟨[x, y], by simp [Op.operands, Call.operands], fun {M0 w0 M w fr} hr hf => by
  obtain ⟨_, k0, rfl⟩ := hf.op hx (by simp)
  obtain ⟨k1, k2⟩ := hf.out key _ hg (.inl rfl)
  obtain ⟨u, k3, k4⟩ := hf.op hy (by simp)
  exact op_append ht.out hE.out k0 k3 hr k1 k2 k4 (by rw [hb.out]; exact hl) fun v' w' M' h1 h2 h3 => ⟨M', StW.st h3, h1, h2⟩⟩
/-- A store of such a slice into a cell. -/
theorem t_stV {α : Type} {E : Enc α} {x y : Operand} {v : Value} {b off tag tg : Nat} {cs : List Value} {l : List α} {t e e' : TypeId} (key ky : Nat) (hx : topP G x = some (pCe b off) := by rfl) (hg : tlook G key = some (.bx b tag cs e) := by rfl) (hy : topP G y = some (pv v) := by rfl)
    (hv : tlook G ky = some (.gv v E l tg e') := by rfl) (hT : T1c P t := by infer_instance) (ho : Nat.ble (off + 1) cs.length = true := by rfl) :
    TOp P N ⟨d, .store t x y, ty, pos, aft, g⟩ G [tag] (.bx b tag (splice cs off [v]) e) := ⟨[x, y], by simp [Op.operands], fun {M0 w0 M w fr} hr hf => by
  obtain ⟨_, k0, rfl⟩ := hf.op hx (by simp)
  obtain ⟨_, k1, rfl⟩ := hf.op hy (by simp)
  obtain ⟨hB, hbx⟩ := hf.out key _ hg (.inl rfl)
  obtain ⟨q1, _⟩ := hf.out ky _ hv (.inl rfl)
  obtain ⟨by', z, hTD⟩ := hT.out
  obtain ⟨a, cap, rfl, _⟩ := q1.ex
  exact op_store hTD k0 k1 (c := [.slice a l.length cap]) rfl (by simp [Value.oneCell']) rfl hr hB hbx (Nat.le_of_ble_eq_true ho) fun w' hb' hst => ⟨M, StW.st hst, hB, hb'⟩⟩

/-- The same, the value being known. -/
theorem t_loadRE {α : Type} {E : Enc α} {x : Operand} {b tag i : Nat} {l : List α} {t e' : TypeId} {Q : α → Pub} {v : α} (key : Nat) (hx : topP G x = some (pRo b E i) := by rfl) (hg : tlook G key = some (.rw b tag E l e') := by rfl)
    (hE : TEc P t E := by infer_instance) (hQ : LDc E Q := by infer_instance) (hv : l[i]? = some v) : TOp P N ⟨d, .load t x, ty, pos, aft, g⟩ G [] (.pu (Q v)) := by
  obtain ⟨hi, rfl⟩ := List.getElem?_eq_some_iff.1 hv
  exact t_loadR key hx hg hE hQ hi
/-- make([]T, n): a row that is still to be written. -/
theorem t_mk {α : Type} {E : Enc α} {x y : Operand} {t e : TypeId} {k' k2 : IntKind} {n : Int} {x0 : α} {by' : Nat} (tag : Nat)
    (hx : topP G x = some (pK k' n) := by rfl) (hy : topP G y = some (pK k2 n) := by rfl) (ht : USl P t e := by infer_instance) (hE : TEc P e E := by infer_instance)
    (hz : ZEc P e E x0 := by infer_instance) (hb : BYc E by' := by infer_instance) (h0 : 0 ≤ n := by omega) (hl : by' * n.toNat ≤ 140737488351232 := by omega) (h63 : n ≤ 9223372036854775807 := by omega) :
    TOp P N ⟨d, .makeSlice t x y, ty, pos, aft, g⟩ G [] (.ow E (List.replicate n.toNat x0) tag e) := ⟨[x, y], by simp [Op.operands], fun {M0 w0 M w fr} hr hf => by
  have _ := hE
  obtain ⟨_, k0, rfl, _⟩ := hf.op hx (by simp)
  obtain ⟨_, k1, rfl, _⟩ := hf.op hy (by simp)
  obtain ⟨z, z1, z2⟩ := hz.out
  have hlz : z.length = E.sz := E.len (z2 M w)
  refine op_make tag ht.out z1 k0 k1 hr h0 (by rw [hb.out]; exact hl) h63 fun b w' M' hB hbx hup => ⟨M', StW.up hr.size hup, b, by simp, hB, _, ?_, hbx⟩
  have := CSS.replicate (E := E) (z2 M' w') n.toNat
  rwa [← madeCells_flatten, hlz] at this⟩

theorem t_faR {α β : Type} {E : Enc α} {E' : Enc β} {x : Operand} {b i : Nat} {s : TypeId} {f : Nat} {pr : α → β} {st : α → β → α} (hx : topP G x = some (pRo b E i) := by rfl) (hF : FDc P s f E E' pr st := by infer_instance) :
    TOp P N ⟨d, .fieldAddr s x f, ty, pos, aft, g⟩ G [] (.pu (pEx fun off => pAnd (FD P s f off) (pRf b E i off))) := .pure [x] (by simp [Op.operands]) fun {B M w fr} hf => by
  obtain ⟨_, h0, rfl⟩ := hf.op hx (by simp)
  obtain ⟨off, k1, k2, k3⟩ := hF.out
  exact op_fieldBox k1 h0 ⟨rfl, off, k1, rfl⟩
end
end Go.Proofs.Ytocoinkhbjlbhaa
