/-
  Part 2 of 5 of the proof of pageCovers_card: lemmas on which it rests, each for all inputs. Merged from the texts Kit8 Kit9 Base Kit10 D1 D2 S1 M26 M26b T26 D3 D4 Kit11 D5 M25.
-/
import Derived.Calls
import Derived.Orders
import Derived.Below
import Derived.KernelRfl
import Derived.WalkKit
import Derived.Laws.AppendOwn
import Derived.Laws.Rows
import Derived.Deep.Slices
import Derived.Laws.OwnMore
import Derived.Laws.MakeOwn
import Derived.Laws.CopyRow
import Derived.Still
import Derived.Lib.SliceRun
import Derived.Test.YtocoinkhbjlbhaaDoorChecked
import Derived.Lib.AppendZeros
import Derived.Test.YtocoinkhbjlbhaaDoorPCx1
section
namespace Go.Proofs.YtocoinkhbjlbhaaDoor
open Go Go.RowKit
structure Pub where
  p : Mut → World → Value → Prop
  mono : ∀ {M w M' w' v}, X M w M' w' → p M w v → p M' w' v
def Rng (k : IntKind) (n : Int) : Prop := (k = .i64 → I64 n) ∧ (k = .u8 → 0 ≤ n ∧ n ≤ 255)
def pv (c : Value) : Pub := ⟨fun _ _ v => v = c, fun _ h => h⟩
def pK (k : IntKind) (n : Int) : Pub := ⟨fun _ _ v => v = .int k n ∧ Rng k n, fun _ h => h⟩
@[reducible] def pI (n : Int) : Pub := pK .i64 n
@[reducible] def pB (b : Bool) : Pub := pv (.bool b)
def pS (s : ByteArray) : Pub := ⟨fun _ _ v => v = .string s ∧ s.size ≤ 140737488351232, fun _ h => h⟩
def pSl {α : Type} (E : Enc α) (l : List α) : Pub := ⟨fun M w v => SlOf E M w v l, fun hx h => h.mono hx⟩
def pPtr {α : Type} (E : Enc α) (x : α) : Pub := ⟨fun M w v => ∃ ad, v = .pointer (some ad) ∧ Elem E M w ad x, fun hx ⟨ad, h1, h2⟩ => ⟨ad, h1, h2.mono hx⟩⟩
def pV {α : Type} (E : Enc α) (x : α) : Pub := ⟨fun M w v => E.V M w v x, fun hx h => h.mono hx⟩
def pT2 (a b : Pub) : Pub := ⟨fun M w v => ∃ x y, v = .tuple #[x, y] ∧ a.p M w x ∧ b.p M w y, fun hx ⟨x, y, h, h1, h2⟩ => ⟨x, y, h, a.mono hx h1, b.mono hx h2⟩⟩
def pT3 (a b c : Pub) : Pub := ⟨fun M w v => ∃ x y z, v = .tuple #[x, y, z] ∧ a.p M w x ∧ b.p M w y ∧ c.p M w z, fun hx ⟨x, y, z, h, h1, h2, h3⟩ => ⟨x, y, z, h, a.mono hx h1, b.mono hx h2, c.mono hx h3⟩⟩
def pEx {α : Type} (q : α → Pub) : Pub := ⟨fun M w v => ∃ a, (q a).p M w v, fun hx ⟨a, h⟩ => ⟨a, (q a).mono hx h⟩⟩
def pAnd (φ : Prop) (q : Pub) : Pub := ⟨fun M w v => φ ∧ q.p M w v, fun hx ⟨h, k⟩ => ⟨h, q.mono hx k⟩⟩
def pSr (b n : Nat) : Pub := pv (.slice (some ⟨b, 0, none⟩) n n)
def pRo {α : Type} (b : Nat) (E : Enc α) (i : Nat) : Pub := pv (.pointer (some ⟨b, i * E.sz, none⟩))
def pCe (b off : Nat) : Pub := pv (.pointer (some ⟨b, off, none⟩))
def pRf {α : Type} (b : Nat) (E : Enc α) (i off : Nat) : Pub := pv (.pointer (some ⟨b, i * E.sz + off, none⟩))
structure Gh where
  tags : List Nat
  p : Nat → Mut → World → Value → Prop
  mono : ∀ {B B' : Nat} {W : List Nat} {M M' : Mut} {w w' : World} {v : Value}, p B M w v → StW B' W M w M' w' → (∀ t ∈ tags, t ∉ W) → p B M' w' v
def Gh.hit (g : Gh) : List Nat → Bool
  | [] => false
  | a :: W => g.tags.any fun t => (a :: W).any (Nat.beq t)
inductive Kd : Type 1 where
  | pu (p : Pub)
  | gr {α : Type} (E : Enc α) (l : List α) (tag : Nat) (e : TypeId)
  | rw {α : Type} (b tag : Nat) (E : Enc α) (l : List α) (e : TypeId)
  | bx (b tag : Nat) (cs : List Value) (e : TypeId)
  | gv {α : Type} (v : Value) (E : Enc α) (l : List α) (tag : Nat) (e : TypeId)
  | ow {α : Type} (E : Enc α) (l : List α) (tag : Nat) (e : TypeId)
  | gh (g : Gh)
  | go (g : Gh)
  | no
def Kd.V (B : Nat) (M : Mut) (w : World) (v : Value) : Kd → Prop
  | .go g => g.p B M w v
  | .pu p => p.p M w v
  | .gr E l tag e => SlOf E M w v l ∧ Grow B M w v l.length E.sz tag e
  | .rw b tag E l e => B ≤ b ∧ ∃ css, CSS E M w css l ∧ Box M w b tag css e
  | .bx b tag cs e => B ≤ b ∧ Box M w b tag cs e
  | .gv u E l tag e => SlOf E M w u l ∧ Grow B M w u l.length E.sz tag e
  | .ow E l tag e => ∃ b, v = .slice (some ⟨b, 0, none⟩) l.length l.length ∧ B ≤ b ∧ ∃ css, CSS E M w css l ∧ Box M w b tag css e
  | .gh g => g.p B M w undef
  | .no => True
def Kd.E (B : Nat) (M : Mut) (w : World) (fr : Fr) (t : Nat) : Kd → Prop
  | .go g => ∃ v, look fr t = some v ∧ g.p B M w v
  | .pu p => ∃ v, look fr t = some v ∧ p.p M w v
  | .gr E l tag e => ∃ v, look fr t = some v ∧ SlOf E M w v l ∧ Grow B M w v l.length E.sz tag e
  | .rw b tag E l e => B ≤ b ∧ ∃ css, CSS E M w css l ∧ Box M w b tag css e
  | .bx b tag cs e => B ≤ b ∧ Box M w b tag cs e
  | .gv u E l tag e => SlOf E M w u l ∧ Grow B M w u l.length E.sz tag e
  | .ow E l tag e => ∃ b, look fr t = some (.slice (some ⟨b, 0, none⟩) l.length l.length) ∧ B ≤ b ∧ ∃ css, CSS E M w css l ∧ Box M w b tag css e
  | .gh g => g.p B M w undef
  | .no => True
def Kd.keep (W : List Nat) : Kd → Bool
  | .gr _ _ tag _ => !(W.any (Nat.beq tag))
  | .rw _ tag _ _ _ => !(W.any (Nat.beq tag))
  | .bx _ tag _ _ => !(W.any (Nat.beq tag))
  | .gv _ _ _ tag _ => !(W.any (Nat.beq tag))
  | .ow _ _ tag _ => !(W.any (Nat.beq tag))
  | .gh g => !(g.hit W)
  | .go g => !(g.hit W)
  | _ => true
def Kd.after (W : List Nat) : Kd → Kd
  | .pu p => .pu p
  | .gr E l tag e => bif W.any (Nat.beq tag) then .pu (pSl E l) else .gr E l tag e
  | .rw b tag E l e => bif W.any (Nat.beq tag) then .no else .rw b tag E l e
  | .bx b tag cs e => bif W.any (Nat.beq tag) then .no else .bx b tag cs e
  | .gv u E l tag e => bif W.any (Nat.beq tag) then .no else .gv u E l tag e
  | .ow E l tag e => bif W.any (Nat.beq tag) then .no else .ow E l tag e
  | .gh g => bif g.hit W then .no else .gh g
  | .go g => bif g.hit W then .no else .go g
  | .no => .no
def Kd.ghost : Kd → Bool
  | .rw _ _ _ _ _ => true
  | .bx _ _ _ _ => true
  | .gv _ _ _ _ _ => true
  | .gh _ => true
  | _ => false
abbrev TF := List (Nat × Kd)
def tlook : TF → Nat → Option Kd
  | [], _ => none
  | (k, T) :: r, t => bif Nat.beq k t then some T else tlook r t
def dropW (W : List Nat) : TF → TF
  | [] => []
  | (k, T) :: r => (k, T.after W) :: dropW W r
def Kd.pub : Kd → Option Pub
  | .pu p => some p
  | .gr E l _ _ => some (pSl E l)
  | _ => none
def inR : IntKind → Int → Bool
  | .i64, .ofNat n => Nat.ble n 9223372036854775807
  | .i64, .negSucc n => Nat.ble n 9223372036854775807
  | .u8, .ofNat n => Nat.ble n 255
  | .u8, .negSucc _ => false
  | _, _ => true
theorem inR_rng {k : IntKind} {n : Int} (h : inR k n = true) : Rng k n := by
  unfold Rng I64
  cases k <;> cases n <;> simp_all [inR] <;> omega
def cpub : Value → Option Pub
  | .int k n => bif inR k n then some (pK k n) else some (pv (.int k n))
  | .string s => bif Nat.ble s.size 140737488351232 then some (pS s) else some (pv (.string s))
  | v => some (pv v)
def topP (G : TF) : Operand → Option Pub
  | .tmp t => match tlook G t with
    | some T => T.pub
    | none => none
  | .const v => cpub v
  | .global g => some (pv (.pointer (some ⟨g, 0, none⟩)))
  | .func f => some (pv (.func (.func f) #[] #[]))
theorem nbeq_ne {a b : Nat} (h : a ≠ b) : Nat.beq a b = false := by
  cases hb : Nat.beq a b
  · rfl
  · exact absurd (nbeq.1 hb) h
theorem nbeq_self (a : Nat) : Nat.beq a a = true := nbeq.2 rfl
theorem tlook_eq (k : Nat) (T : Kd) (r : TF) : tlook ((k, T) :: r) k = some T := by simp [tlook]
theorem tlook_ne {k t : Nat} (T : Kd) (r : TF) (h : k ≠ t) : tlook ((k, T) :: r) t = tlook r t := by simp [tlook, nbeq_ne h]
theorem tlook_dropW {W : List Nat} : ∀ {G : TF} {t : Nat} {T : Kd}, tlook (dropW W G) t = some T → ∃ T', tlook G t = some T' ∧ T = T'.after W
  | [], _, _, h => by simp [dropW, tlook] at h
  | (k, U) :: r, t, T, h => by
    by_cases e : k = t
    · subst e
      rw [dropW, tlook_eq] at h
      exact ⟨U, tlook_eq _ _ _, (Option.some.inj h).symm⟩
    · rw [dropW, tlook_ne _ _ e] at h
      rw [tlook_ne _ _ e]
      exact tlook_dropW h
structure FitX (B : Nat) (M : Mut) (w : World) (fr : Fr) (G : TF) (S : Nat → Prop) : Prop where
  lay : Lays M w
  out : ∀ t T, tlook G t = some T → T.ghost = true ∨ S t → T.E B M w fr t
abbrev Fit (B : Nat) (M : Mut) (w : World) (fr : Fr) (G : TF) : Prop := FitX B M w fr G (fun _ => True)
section
variable {B : Nat} {M M' : Mut} {w w' : World} {fr : Fr} {G : TF} {S : Nat → Prop}
theorem Kd.V_E {T : Kd} {d : Nat} {v : Value} (h : T.V B M w v) : T.E B M w ((d, v) :: fr) d := by
  cases T with
  | pu p => exact ⟨v, look_cons_eq _ _ _, h⟩
  | gr E l tag e => exact ⟨v, look_cons_eq _ _ _, h⟩
  | rw b tag E l e => exact h
  | bx b tag cs e => exact h
  | gv u E l tag e => exact h
  | ow E l tag e => obtain ⟨b, rfl, h2⟩ := h; exact ⟨b, look_cons_eq _ _ _, h2⟩
  | gh g => exact h
  | go g => exact ⟨v, look_cons_eq _ _ _, h⟩
  | no => exact trivial
theorem Kd.E_look {fr' : Fr} {T : Kd} {t : Nat} (h : T.E B M w fr t) (hl : look fr' t = look fr t) : T.E B M w fr' t := by
  cases T with
  | pu p => obtain ⟨v, h1, h2⟩ := h; exact ⟨v, hl.trans h1, h2⟩
  | gr E l tag e => obtain ⟨v, h1, h2⟩ := h; exact ⟨v, hl.trans h1, h2⟩
  | rw b tag E l e => exact h
  | bx b tag cs e => exact h
  | gv u E l tag e => exact h
  | ow E l tag e => obtain ⟨b, h1, h2⟩ := h; exact ⟨b, hl.trans h1, h2⟩
  | gh g => exact h
  | go g => obtain ⟨v, h1, h2⟩ := h; exact ⟨v, hl.trans h1, h2⟩
  | no => exact trivial
theorem Fit.cons (h : Fit B M w fr G) {d : Nat} {T : Kd} {v : Value} (ht : T.V B M w v) : Fit B M w ((d, v) :: fr) ((d, T) :: G) := ⟨h.lay, fun t U hU _ => by
  by_cases e : d = t
  · subst e
    rw [tlook_eq] at hU
    cases hU
    exact Kd.V_E ht
  · rw [tlook_ne _ _ e] at hU
    exact Kd.E_look (h.out t U hU (.inr trivial)) (look_cons_ne _ _ e)⟩
theorem Fit.hide (h : Fit B M w fr G) {d : Nat} {T : Kd} (ht : T.E B M w fr d) : Fit B M w fr ((d, T) :: G) := ⟨h.lay, fun t U hU _ => by
  by_cases e : d = t
  · subst e
    rw [tlook_eq] at hU
    cases hU
    exact ht
  · rw [tlook_ne _ _ e] at hU
    exact h.out t U hU (.inr trivial)⟩
theorem anyb {W : List Nat} {t : Nat} (h : W.any (Nat.beq t) = false) : t ∉ W := fun hm => by
  rw [List.any_eq_true.2 ⟨t, hm, nbeq_self t⟩] at h; cases h
theorem Gh.free {g : Gh} {W : List Nat} (h : g.hit W = false) : ∀ t ∈ g.tags, t ∉ W := fun t ht hm => by
  cases W with
  | nil => cases hm
  | cons a W =>
    have : g.hit (a :: W) = true := List.any_eq_true.2 ⟨t, ht, List.any_eq_true.2 ⟨t, hm, nbeq_self t⟩⟩
    rw [this] at h; cases h
theorem Grow.stw0 {B' : Nat} {v : Value} {n sz tag : Nat} {e : TypeId} {W : List Nat} (h : Grow B M w v n sz tag e) (s : StW B' W M w M' w') (ht : tag ∉ W) : Grow B M' w' v n sz tag e := by
  rcases h.ex with h | ⟨g, off, cap, cur, k1, k2, k3, k4, k5, k6, k7⟩
  · exact ⟨.inl h⟩
  · have hl := (Array.getElem?_eq_some_iff.1 k3).1
    obtain ⟨q1, q2⟩ := s.keep g _ k7 ht hl
    exact ⟨.inr ⟨g, off, cap, cur, k1, k2, q2.trans k3, k4, k5, k6, q1⟩⟩
theorem Kd.E_after {W : List Nat} {B' : Nat} {T : Kd} {t : Nat} (h : T.E B M w fr t) (hs : StW B' W M w M' w') : (T.after W).E B M' w' fr t := by
  cases T with
  | pu p => obtain ⟨v, h1, h2⟩ := h; exact ⟨v, h1, p.mono hs.x h2⟩
  | gr E l tag e =>
    obtain ⟨v, h1, h2, h3⟩ := h
    cases hc : W.any (Nat.beq tag)
    · rw [show Kd.after W (.gr E l tag e) = .gr E l tag e by simp [Kd.after, hc]]
      exact ⟨v, h1, h2.mono hs.x, h3.stw0 hs (anyb hc)⟩
    · rw [show Kd.after W (.gr E l tag e) = .pu (pSl E l) by simp [Kd.after, hc]]
      exact ⟨v, h1, h2.mono hs.x⟩
  | rw b tag E l e =>
    obtain ⟨h1, css, h2, h3⟩ := h
    cases hc : W.any (Nat.beq tag)
    · rw [show Kd.after W (.rw b tag E l e) = .rw b tag E l e by simp [Kd.after, hc]]
      exact ⟨h1, css, h2.mono hs.x, h3.stw hs (anyb hc)⟩
    · rw [show Kd.after W (.rw b tag E l e) = .no by simp [Kd.after, hc]]
      exact trivial
  | bx b tag cs e =>
    obtain ⟨h1, h3⟩ := h
    cases hc : W.any (Nat.beq tag)
    · rw [show Kd.after W (.bx b tag cs e) = .bx b tag cs e by simp [Kd.after, hc]]
      exact ⟨h1, h3.stw hs (anyb hc)⟩
    · rw [show Kd.after W (.bx b tag cs e) = .no by simp [Kd.after, hc]]
      exact trivial
  | gv u E l tag e =>
    obtain ⟨h2, h3⟩ := h
    cases hc : W.any (Nat.beq tag)
    · rw [show Kd.after W (.gv u E l tag e) = .gv u E l tag e by simp [Kd.after, hc]]
      exact ⟨h2.mono hs.x, h3.stw0 hs (anyb hc)⟩
    · rw [show Kd.after W (.gv u E l tag e) = .no by simp [Kd.after, hc]]
      exact trivial
  | ow E l tag e =>
    obtain ⟨b, h0, h1, css, h2, h3⟩ := h
    cases hc : W.any (Nat.beq tag)
    · rw [show Kd.after W (.ow E l tag e) = .ow E l tag e by simp [Kd.after, hc]]
      exact ⟨b, h0, h1, css, h2.mono hs.x, h3.stw hs (anyb hc)⟩
    · rw [show Kd.after W (.ow E l tag e) = .no by simp [Kd.after, hc]]
      exact trivial
  | gh g =>
    cases hc : g.hit W
    · rw [show Kd.after W (.gh g) = .gh g by simp [Kd.after, hc]]
      exact g.mono h hs (Gh.free hc)
    · rw [show Kd.after W (.gh g) = .no by simp [Kd.after, hc]]
      exact trivial
  | go g =>
    obtain ⟨v, h1, h2⟩ := h
    cases hc : g.hit W
    · rw [show Kd.after W (.go g) = .go g by simp [Kd.after, hc]]
      exact ⟨v, h1, g.mono h2 hs (Gh.free hc)⟩
    · rw [show Kd.after W (.go g) = .no by simp [Kd.after, hc]]
      exact trivial
  | no => exact trivial
theorem Kd.V_keep {W : List Nat} {B' : Nat} {T : Kd} {v : Value} (h : T.V B M w v) (hs : StW B' W M w M' w') (hk : T.keep W = true) : T.V B M' w' v := by
  cases T with
  | pu p => exact p.mono hs.x h
  | gr E l tag e =>
    obtain ⟨h2, h3⟩ := h
    have hc : W.any (Nat.beq tag) = false := by simpa [Kd.keep] using hk
    exact ⟨h2.mono hs.x, h3.stw0 hs (anyb hc)⟩
  | rw b tag E l e =>
    obtain ⟨h1, css, h2, h3⟩ := h
    have hc : W.any (Nat.beq tag) = false := by simpa [Kd.keep] using hk
    exact ⟨h1, css, h2.mono hs.x, h3.stw hs (anyb hc)⟩
  | bx b tag cs e =>
    have hc : W.any (Nat.beq tag) = false := by simpa [Kd.keep] using hk
    exact ⟨h.1, h.2.stw hs (anyb hc)⟩
  | gv u E l tag e =>
    have hc : W.any (Nat.beq tag) = false := by simpa [Kd.keep] using hk
    exact ⟨h.1.mono hs.x, h.2.stw0 hs (anyb hc)⟩
  | ow E l tag e =>
    obtain ⟨b, h0, h1, css, h2, h3⟩ := h
    have hc : W.any (Nat.beq tag) = false := by simpa [Kd.keep] using hk
    exact ⟨b, h0, h1, css, h2.mono hs.x, h3.stw hs (anyb hc)⟩
  | gh g =>
    have hc : g.hit W = false := by simpa [Kd.keep] using hk
    exact g.mono h hs (Gh.free hc)
  | go g =>
    have hc : g.hit W = false := by simpa [Kd.keep] using hk
    exact g.mono h hs (Gh.free hc)
  | no => exact trivial
theorem Fit.after {W : List Nat} {B' : Nat} (h : Fit B M w fr G) (hs : StW B' W M w M' w') : Fit B M' w' fr (dropW W G) := ⟨h.lay.mono hs.x, fun t T hT _ => by
  obtain ⟨T', h1, rfl⟩ := tlook_dropW hT
  exact Kd.E_after (h.out t T' h1 (.inr trivial)) hs⟩
theorem Kd.after_nil (T : Kd) : T.after [] = T := by cases T <;> rfl
theorem dropW_nil : ∀ G : TF, dropW [] G = G
  | [] => rfl
  | (k, T) :: r => by rw [dropW, Kd.after_nil, dropW_nil r]
theorem Fit.up {B' : Nat} (h : Fit B M w fr G) (hs : StW B' [] M w M' w') : Fit B M' w' fr G := by
  have := h.after hs
  rwa [dropW_nil] at this
theorem Kd.pub_E {T : Kd} {p : Pub} {t : Nat} (hp : T.pub = some p) (h : T.E B M w fr t) : ∃ v, look fr t = some v ∧ p.p M w v := by
  cases T with
  | pu q => cases hp; exact h
  | gr E l tag e => cases hp; obtain ⟨v, h1, h2, _⟩ := h; exact ⟨v, h1, h2⟩
  | rw b tag E l e => cases hp
  | bx b tag cs e => cases hp
  | gv u E l tag e => cases hp
  | ow E l tag e => cases hp
  | gh g => cases hp
  | go g => cases hp
  | no => cases hp
theorem cpub_ok {v : Value} {p : Pub} (h : cpub v = some p) : p.p M w v := by
  unfold cpub at h
  split at h
  · cases hc : inR _ _
    · rw [hc] at h; cases h; exact rfl
    · rw [hc] at h; cases h; exact ⟨rfl, inR_rng hc⟩
  · rename_i s
    cases hc : Nat.ble s.size 140737488351232
    · rw [hc] at h; cases h; exact rfl
    · rw [hc] at h; cases h; exact ⟨rfl, Nat.le_of_ble_eq_true hc⟩
  · cases h; exact rfl
theorem FitX.op0 {x : Operand} {p : Pub} (h : FitX B M w fr G S) (hx : topP G x = some p) (hS : ∀ t, x = .tmp t → S t) : ∃ v, opv fr x = some v ∧ p.p M w v := by
  cases x with
  | tmp t =>
    simp only [topP] at hx
    split at hx
    · rename_i T hT
      exact Kd.pub_E hx (h.out t T hT (.inr (hS t rfl)))
    · cases hx
  | const v => exact ⟨v, rfl, cpub_ok hx⟩
  | global g => cases hx; exact ⟨_, rfl, rfl⟩
  | func f => cases hx; exact ⟨_, rfl, rfl⟩
theorem FitX.op {xs : List Operand} {x : Operand} {p : Pub} (h : FitX B M w fr G (fun t => Operand.tmp t ∈ xs)) (hx : topP G x = some p) (hm : x ∈ xs) : ∃ v, opv fr x = some v ∧ p.p M w v :=
  h.op0 hx fun _ e => e ▸ hm
end
structure TOp (P : Program) (N : Nat) (o : Oper) (G : TF) (W : List Nat) (T : Kd) : Prop where
  out : ∃ xs : List Operand, (∀ x ∈ xs, x ∈ o.op.operands) ∧ ∀ {M0 : Mut} {w0 : World} {M : Mut} {w : World} {fr : Fr}, Rn M0 w0 M w → FitX w0.heap.size M w fr G (fun t => Operand.tmp t ∈ xs) →
    OP P N o fr w (fun v w' => ∃ M', StW w0.heap.size W M w M' w' ∧ T.V w0.heap.size M' w' v)
theorem TOp.fit {P : Program} {N : Nat} {o : Oper} {G : TF} {W : List Nat} {T : Kd} (h : TOp P N o G W T) {M0 : Mut} {w0 : World} {M : Mut} {w : World} {fr : Fr} (hr : Rn M0 w0 M w) (hf : Fit w0.heap.size M w fr G) :
    OP P N o fr w (fun v w' => ∃ M', StW w0.heap.size W M w M' w' ∧ T.V w0.heap.size M' w' v) := by
  obtain ⟨xs, _, h2⟩ := h.out
  exact h2 hr ⟨hf.lay, fun t T hT _ => hf.out t T hT (.inr trivial)⟩
def topPs (G : TF) : List Operand → Option (List Pub)
  | [] => some []
  | x :: r => match topP G x, topPs G r with
    | some p, some l => some (p :: l)
    | _, _ => none
def FitL (M : Mut) (w : World) : List Pub → List Value → Prop
  | [], [] => True
  | p :: r, v :: s => p.p M w v ∧ FitL M w r s
  | _, _ => False
theorem FitX.ops {B : Nat} {M : Mut} {w : World} {fr : Fr} {G : TF} {S : Nat → Prop} (h : FitX B M w fr G S) : ∀ {xs : List Operand} {ps : List Pub}, topPs G xs = some ps → (∀ t, Operand.tmp t ∈ xs → S t) → ∃ vs, opvs fr xs = some vs ∧ FitL M w ps vs
  | [], ps, hx, _ => by cases hx; exact ⟨[], rfl, trivial⟩
  | x :: r, ps, hx, hS => by
    simp only [topPs] at hx
    split at hx
    · rename_i p l h1 h2
      cases hx
      obtain ⟨v, k1, k2⟩ := h.op0 h1 (fun t e => hS t (by simp [e]))
      obtain ⟨vs, k3, k4⟩ := h.ops h2 (fun t e => hS t (by simp [e]))
      exact ⟨v :: vs, by simp [opvs, k1, k3], k2, k4⟩
    · cases hx
structure Fn (P : Program) (g : FuncId) (Ps : List Pub) (Q : Pub) : Prop where
  ent : Ent P g
  run : ∀ M w vs, MB M w → Lays M w → FitL M w Ps vs → CallsV P g vs w (fun v w' => Q.p M w' v ∧ Below w.heap.size w w')
class USl (P : Program) (t : TypeId) (e : outParam TypeId) : Prop where
  out : P.underlying t = some (.slice e)
class TEc (P : Program) (t : TypeId) {α : outParam Type} (E : outParam (Enc α)) : Prop where
  out : TE P t E
class BYc {α : Type} (E : Enc α) (n : outParam Nat) : Prop where
  out : E.by_ = n
class LDc {α : Type} (E : Enc α) (Q : outParam (α → Pub)) : Prop where
  out : ∀ {M : Mut} {w : World} {v : Value} {x : α}, E.V M w v x → (Q x).p M w v
class PEc {α : Type} (Q : Pub) (E : Enc α) (x : outParam α) : Prop where
  out : ∀ {M : Mut} {w : World} {v : Value}, Q.p M w v → E.V M w v x
class FDc {α : Type} {β : outParam Type} (P : Program) (s : TypeId) (f : Nat) (E : Enc α) (E' : outParam (Enc β)) (pr : outParam (α → β)) (st : outParam (α → β → α)) : Prop where
  out : ∃ off, FD P s f off ∧ (∀ {M : Mut} {w : World} {ad : Addr} {x : α}, Elem E M w ad x → Elem E' M w (ad.add off) (pr x)) ∧
    ∀ {M : Mut} {w : World} {cs c : List Value} {x : α} {y : β}, E.R M w cs x → E'.R M w c y → off + c.length ≤ E.sz ∧ E.R M w (splice cs off c) (st x y)
class FVc {α : Type} (P : Program) (s : TypeId) (f : Nat) (E : Enc α) (Q : outParam (α → Pub)) : Prop where
  out : ∀ {N : Nat} {fr : Fr} {M : Mut} {w : World} {d : Option Tmp} {ty : TypeId} {pos : String} {aft : Array Edge} {g : Option (Nat × Bool)} {x : Operand} {v : Value} {a : α} {Ψ : Value → World → Prop},
    opv fr x = some v → E.V M w v a → (∀ u, (Q a).p M w u → Ψ u w) → OP P N ⟨d, .field s x f, ty, pos, aft, g⟩ fr w Ψ
class FOc (P : Program) (s : TypeId) (f : Nat) (off : outParam Nat) : Prop where
  out : FD P s f off
class T1c (P : Program) (t : TypeId) : Prop where
  out : ∃ by' z, TD P t 1 by' false z
class BLc {α : outParam Type} (P : Program) (t : TypeId) (idx : List Nat) (Qs : List Pub) (E : outParam (Enc α)) (x : outParam α) : Prop where
  out : ∀ {N : Nat} {fr : Fr} {M : Mut} {w : World} {d : Option Tmp} {ty : TypeId} {pos : String} {aft : Array Edge} {g : Option (Nat × Bool)} {parts : List (Nat × Operand)} {vs : List Value} {Ψ : Value → World → Prop},
    parts.map (·.1) = idx → opvs fr (parts.map (·.2)) = some vs → FitL M w Qs vs → (∀ u, E.V M w u x → Ψ u w) → OP P N ⟨d, .build t parts.toArray, ty, pos, aft, g⟩ fr w Ψ
class ZEc {α : Type} (P : Program) (e : TypeId) (E : Enc α) (x : outParam α) : Prop where
  out : ∃ z, TD P e E.sz E.by_ E.agg z ∧ ∀ M w, E.R M w z x
class PEL {α : Type} (E : Enc α) (Qs : List Pub) (l : outParam (List α)) : Prop where
  out : ∀ {M : Mut} {w : World} {vs : List Value}, FitL M w Qs vs → Vals E M w vs l
instance {α : Type} {E : Enc α} : PEL E [] [] := ⟨fun {M w vs} h => by
  cases vs with
  | nil => exact trivial
  | cons => exact h.elim⟩
instance {α : Type} {E : Enc α} {Q : Pub} {Qs : List Pub} {x : α} {xs : List α} [h : PEc Q E x] [r : PEL E Qs xs] : PEL E (Q :: Qs) (x :: xs) := ⟨fun {M w vs} hf => by
  cases vs with
  | nil => exact hf.elim
  | cons => exact ⟨h.out hf.1, r.out hf.2⟩⟩
section
variable {P : Program} {N : Nat} {G : TF} {d : Option Tmp} {ty : TypeId} {pos : String} {aft : Array Edge} {g : Option (Nat × Bool)}
theorem TOp.pure {o : Oper} {p : Pub} (xs : List Operand) (hs : ∀ x ∈ xs, x ∈ o.op.operands) (h : ∀ {B : Nat} {M : Mut} {w : World} {fr : Fr}, FitX B M w fr G (fun t => Operand.tmp t ∈ xs) → OP P N o fr w (fun v w' => w' = w ∧ p.p M w v)) :
    TOp P N o G [] (.pu p) := ⟨xs, hs, fun {_ _ M _ _} _ hf => (h hf).mono fun _ _ ⟨e, k⟩ => ⟨M, e ▸ StW.refl _ _ _, e ▸ k⟩⟩
theorem TOp.up {o : Oper} {p : Pub} (xs : List Operand) (hs : ∀ x ∈ xs, x ∈ o.op.operands) (h : ∀ {M0 : Mut} {w0 : World} {M : Mut} {w : World} {fr : Fr}, Rn M0 w0 M w → FitX w0.heap.size M w fr G (fun t => Operand.tmp t ∈ xs) → OP P N o fr w (fun v w' => Below w.heap.size w w' ∧ p.p M w' v)) :
    TOp P N o G [] (.pu p) := ⟨xs, hs, fun {_ _ M _ _} hr hf => (h hr hf).mono fun _ _ ⟨e, k⟩ => ⟨M, StW.up hr.size (UpM.of_below e), k⟩⟩
theorem rng64 {n : Int} (h : -9223372036854775808 ≤ n ∧ n ≤ 9223372036854775807) : Rng .i64 n := ⟨fun _ => h, fun e => by cases e⟩
theorem t_move {x : Operand} {p : Pub} (hx : topP G x = some p := by rfl) : TOp P N ⟨d, .move x, ty, pos, aft, g⟩ G [] (.pu p) :=
  .pure [x] (by simp [Op.operands]) fun hf => by
    obtain ⟨v, h1, h2⟩ := hf.op hx (by simp)
    exact op_move h1 ⟨rfl, h2⟩
theorem t_assign {x : Operand} {p : Pub} (hx : topP G x = some p := by rfl) : TOp P N ⟨d, .assign x, ty, pos, aft, g⟩ G [] (.pu p) :=
  .pure [x] (by simp [Op.operands]) fun hf => by
    obtain ⟨v, h1, h2⟩ := hf.op hx (by simp)
    exact op_assign h1 ⟨rfl, h2⟩
theorem t_assignO {α : Type} {E : Enc α} {l : List α} {tag : Nat} {e : TypeId} {t : Nat} (hx : tlook G t = some (.ow E l tag e) := by rfl) : TOp P N ⟨d, .assign (.tmp t), ty, pos, aft, g⟩ G [] (.ow E l tag e) :=
  ⟨[.tmp t], by simp [Op.operands], fun {M0 w0 M w fr} hr hf => by
    obtain ⟨b, h1, h2⟩ := hf.out t _ hx (.inr (by simp))
    exact op_assign h1 ⟨M, StW.refl _ _ _, b, rfl, h2⟩⟩
theorem t_moveG {α : Type} {E : Enc α} {l : List α} {tag : Nat} {e : TypeId} {t : Nat} (hx : tlook G t = some (.gr E l tag e) := by rfl) : TOp P N ⟨d, .move (.tmp t), ty, pos, aft, g⟩ G [] (.gr E l tag e) :=
  ⟨[.tmp t], by simp [Op.operands], fun {M0 w0 M w fr} hr hf => by
    obtain ⟨v, h1, h2⟩ := hf.out t _ hx (.inr (by simp))
    exact op_move h1 ⟨M, StW.refl _ _ _, h2⟩⟩
theorem t_assignG {α : Type} {E : Enc α} {l : List α} {tag : Nat} {e : TypeId} {t : Nat} (hx : tlook G t = some (.gr E l tag e) := by rfl) : TOp P N ⟨d, .assign (.tmp t), ty, pos, aft, g⟩ G [] (.gr E l tag e) :=
  ⟨[.tmp t], by simp [Op.operands], fun {M0 w0 M w fr} hr hf => by
    obtain ⟨v, h1, h2⟩ := hf.out t _ hx (.inr (by simp))
    exact op_assign h1 ⟨M, StW.refl _ _ _, h2⟩⟩
theorem t_pickT {c x y : Operand} {p : Pub} (hc : topP G c = some (pB true) := by rfl) (hx : topP G x = some p := by rfl) : TOp P N ⟨d, .pick c x y, ty, pos, aft, g⟩ G [] (.pu p) :=
  .pure [c, x] (by simp [Op.operands]) fun hf => by
    obtain ⟨u, h0, rfl⟩ := hf.op hc (by simp)
    obtain ⟨v, h1, h2⟩ := hf.op hx (by simp)
    exact op_pick_t h0 h1 ⟨rfl, h2⟩
theorem t_pickF {c x y : Operand} {p : Pub} (hc : topP G c = some (pB false) := by rfl) (hy : topP G y = some p := by rfl) : TOp P N ⟨d, .pick c x y, ty, pos, aft, g⟩ G [] (.pu p) :=
  .pure [c, y] (by simp [Op.operands]) fun hf => by
    obtain ⟨u, h0, rfl⟩ := hf.op hc (by simp)
    obtain ⟨v, h1, h2⟩ := hf.op hy (by simp)
    exact op_pick_f h0 h1 ⟨rfl, h2⟩
section ints
variable {x y : Operand} {m n : Int} {t u : TypeId}
theorem t_add (hx : topP G x = some (pI m) := by rfl) (hy : topP G y = some (pI n) := by rfl) (hr : -9223372036854775808 ≤ m + n ∧ m + n ≤ 9223372036854775807 := by omega) :
    TOp P N ⟨d, .binOp .add t x y u, ty, pos, aft, g⟩ G [] (.pu (pI (m + n))) := .pure [x, y] (by simp [Op.operands]) fun hf => by
  obtain ⟨_, h0, rfl, _⟩ := hf.op hx (by simp)
  obtain ⟨_, h1, rfl, _⟩ := hf.op hy (by simp)
  exact op_add h0 h1 hr ⟨rfl, rfl, rng64 hr⟩
theorem t_sub (hx : topP G x = some (pI m) := by rfl) (hy : topP G y = some (pI n) := by rfl) (hr : -9223372036854775808 ≤ m - n ∧ m - n ≤ 9223372036854775807 := by omega) :
    TOp P N ⟨d, .binOp .sub t x y u, ty, pos, aft, g⟩ G [] (.pu (pI (m - n))) := .pure [x, y] (by simp [Op.operands]) fun hf => by
  obtain ⟨_, h0, rfl, _⟩ := hf.op hx (by simp)
  obtain ⟨_, h1, rfl, _⟩ := hf.op hy (by simp)
  exact op_sub h0 h1 hr ⟨rfl, rfl, rng64 hr⟩
theorem t_mul (hx : topP G x = some (pI m) := by rfl) (hy : topP G y = some (pI n) := by rfl) (hr : -9223372036854775808 ≤ m * n ∧ m * n ≤ 9223372036854775807 := by omega) :
    TOp P N ⟨d, .binOp .mul t x y u, ty, pos, aft, g⟩ G [] (.pu (pI (m * n))) := .pure [x, y] (by simp [Op.operands]) fun hf => by
  obtain ⟨_, h0, rfl, _⟩ := hf.op hx (by simp)
  obtain ⟨_, h1, rfl, _⟩ := hf.op hy (by simp)
  exact op_mul h0 h1 hr ⟨rfl, rfl, rng64 hr⟩
theorem tdiv_rng {m n : Int} (hm : I64 m) (hn : 0 < n) : -9223372036854775808 ≤ m.tdiv n ∧ m.tdiv n ≤ 9223372036854775807 := by
  unfold I64 at hm
  rcases Int.le_total 0 m with h | h
  · have h1 := Int.tdiv_nonneg h (Int.le_of_lt hn)
    have h2 := Int.tdiv_le_self n h
    omega
  · have e : m.tdiv n = -((-m).tdiv n) := by rw [Int.neg_tdiv, Int.neg_neg]
    have h1 := Int.tdiv_nonneg (show 0 ≤ -m by omega) (Int.le_of_lt hn)
    have h2 := Int.tdiv_le_self n (show 0 ≤ -m by omega)
    omega
theorem tmod_rng {m n : Int} (hn : 0 < n) : -n < m.tmod n ∧ m.tmod n < n := by
  have h1 := Int.lt_tmod_of_pos m hn
  have h2 := Int.tmod_lt_of_pos m hn
  omega
theorem t_quo (hx : topP G x = some (pI m) := by rfl) (hy : topP G y = some (pI n) := by rfl) (hn : 0 < n := by omega) :
    TOp P N ⟨d, .binOp .quo t x y u, ty, pos, aft, g⟩ G [] (.pu (pI (m.tdiv n))) := .pure [x, y] (by simp [Op.operands]) fun hf => by
  obtain ⟨_, h0, rfl, hm, _⟩ := hf.op hx (by simp)
  obtain ⟨_, h1, rfl, _⟩ := hf.op hy (by simp)
  have hr := tdiv_rng (hm rfl) hn
  exact op_quo h0 h1 (by omega) hr ⟨rfl, rfl, rng64 hr⟩
theorem t_rem (hx : topP G x = some (pI m) := by rfl) (hy : topP G y = some (pI n) := by rfl) (hn : 0 < n := by omega) :
    TOp P N ⟨d, .binOp .rem t x y u, ty, pos, aft, g⟩ G [] (.pu (pI (m.tmod n))) := .pure [x, y] (by simp [Op.operands]) fun hf => by
  obtain ⟨_, h0, rfl, hm, _⟩ := hf.op hx (by simp)
  obtain ⟨_, h1, rfl, hn2, _⟩ := hf.op hy (by simp)
  have h2 := tmod_rng (m := m) hn
  have h3 := hn2 rfl
  unfold I64 at h3
  exact op_rem h0 h1 (by omega) ⟨rfl, rfl, rng64 (by omega)⟩
theorem t_not {b : Bool} (hx : topP G x = some (pB b) := by rfl) : TOp P N ⟨d, .unOp .not t x, ty, pos, aft, g⟩ G [] (.pu (pB (!b))) := .pure [x] (by simp [Op.operands]) fun hf => by
  obtain ⟨_, h0, rfl⟩ := hf.op hx (by simp)
  exact op_not h0 ⟨rfl, rfl⟩
theorem t_lss {k : IntKind} (hx : topP G x = some (pK k m) := by rfl) (hy : topP G y = some (pK k n) := by rfl) : TOp P N ⟨d, .binOp .lss t x y u, ty, pos, aft, g⟩ G [] (.pu (pB (decide (m < n)))) := .pure [x, y] (by simp [Op.operands]) fun hf => by
  obtain ⟨_, h0, rfl, hm⟩ := hf.op hx (by simp)
  obtain ⟨_, h1, rfl, hn⟩ := hf.op hy (by simp)
  exact op_lss h0 h1 ⟨rfl, rfl⟩
theorem t_leq {k : IntKind} (hx : topP G x = some (pK k m) := by rfl) (hy : topP G y = some (pK k n) := by rfl) : TOp P N ⟨d, .binOp .leq t x y u, ty, pos, aft, g⟩ G [] (.pu (pB (decide (m ≤ n)))) := .pure [x, y] (by simp [Op.operands]) fun hf => by
  obtain ⟨_, h0, rfl, hm⟩ := hf.op hx (by simp)
  obtain ⟨_, h1, rfl, hn⟩ := hf.op hy (by simp)
  exact op_leq h0 h1 ⟨rfl, rfl⟩
theorem t_gtr {k : IntKind} (hx : topP G x = some (pK k m) := by rfl) (hy : topP G y = some (pK k n) := by rfl) : TOp P N ⟨d, .binOp .gtr t x y u, ty, pos, aft, g⟩ G [] (.pu (pB (decide (n < m)))) := .pure [x, y] (by simp [Op.operands]) fun hf => by
  obtain ⟨_, h0, rfl, hm⟩ := hf.op hx (by simp)
  obtain ⟨_, h1, rfl, hn⟩ := hf.op hy (by simp)
  exact op_gtr h0 h1 ⟨rfl, rfl⟩
theorem t_geq {k : IntKind} (hx : topP G x = some (pK k m) := by rfl) (hy : topP G y = some (pK k n) := by rfl) : TOp P N ⟨d, .binOp .geq t x y u, ty, pos, aft, g⟩ G [] (.pu (pB (decide (n ≤ m)))) := .pure [x, y] (by simp [Op.operands]) fun hf => by
  obtain ⟨_, h0, rfl, hm⟩ := hf.op hx (by simp)
  obtain ⟨_, h1, rfl, hn⟩ := hf.op hy (by simp)
  exact op_geq h0 h1 ⟨rfl, rfl⟩
theorem t_eql {k : IntKind} (hx : topP G x = some (pK k m) := by rfl) (hy : topP G y = some (pK k n) := by rfl) : TOp P N ⟨d, .binOp .eql t x y u, ty, pos, aft, g⟩ G [] (.pu (pB (decide (m = n)))) := .pure [x, y] (by simp [Op.operands]) fun hf => by
  obtain ⟨_, h0, rfl, hm⟩ := hf.op hx (by simp)
  obtain ⟨_, h1, rfl, hn⟩ := hf.op hy (by simp)
  exact op_eql h0 h1 ⟨rfl, rfl⟩
theorem t_neq {k : IntKind} (hx : topP G x = some (pK k m) := by rfl) (hy : topP G y = some (pK k n) := by rfl) : TOp P N ⟨d, .binOp .neq t x y u, ty, pos, aft, g⟩ G [] (.pu (pB (decide (m ≠ n)))) := .pure [x, y] (by simp [Op.operands]) fun hf => by
  obtain ⟨_, h0, rfl, hm⟩ := hf.op hx (by simp)
  obtain ⟨_, h1, rfl, hn⟩ := hf.op hy (by simp)
  exact op_neq h0 h1 ⟨rfl, rfl⟩
theorem TOp.yes {o : Oper} {W : List Nat} {p : Prop} [Decidable p] (h : TOp P N o G W (.pu (pB (decide p)))) (hp : p) : TOp P N o G W (.pu (pB true)) := by rwa [decide_eq_true hp] at h
theorem TOp.no {o : Oper} {W : List Nat} {p : Prop} [Decidable p] (h : TOp P N o G W (.pu (pB (decide p)))) (hp : ¬ p) : TOp P N o G W (.pu (pB false)) := by rwa [decide_eq_false hp] at h
theorem t_lssT {k : IntKind} (hx : topP G x = some (pK k m) := by rfl) (hy : topP G y = some (pK k n) := by rfl) (h : m < n := by omega) : TOp P N ⟨d, .binOp .lss t x y u, ty, pos, aft, g⟩ G [] (.pu (pB true)) := (t_lss hx hy).yes h
theorem t_lssF {k : IntKind} (hx : topP G x = some (pK k m) := by rfl) (hy : topP G y = some (pK k n) := by rfl) (h : n ≤ m := by omega) : TOp P N ⟨d, .binOp .lss t x y u, ty, pos, aft, g⟩ G [] (.pu (pB false)) := (t_lss hx hy).no (by omega)
theorem t_leqT {k : IntKind} (hx : topP G x = some (pK k m) := by rfl) (hy : topP G y = some (pK k n) := by rfl) (h : m ≤ n := by omega) : TOp P N ⟨d, .binOp .leq t x y u, ty, pos, aft, g⟩ G [] (.pu (pB true)) := (t_leq hx hy).yes h
theorem t_leqF {k : IntKind} (hx : topP G x = some (pK k m) := by rfl) (hy : topP G y = some (pK k n) := by rfl) (h : n < m := by omega) : TOp P N ⟨d, .binOp .leq t x y u, ty, pos, aft, g⟩ G [] (.pu (pB false)) := (t_leq hx hy).no (by omega)
theorem t_gtrT {k : IntKind} (hx : topP G x = some (pK k m) := by rfl) (hy : topP G y = some (pK k n) := by rfl) (h : n < m := by omega) : TOp P N ⟨d, .binOp .gtr t x y u, ty, pos, aft, g⟩ G [] (.pu (pB true)) := (t_gtr hx hy).yes h
theorem t_gtrF {k : IntKind} (hx : topP G x = some (pK k m) := by rfl) (hy : topP G y = some (pK k n) := by rfl) (h : m ≤ n := by omega) : TOp P N ⟨d, .binOp .gtr t x y u, ty, pos, aft, g⟩ G [] (.pu (pB false)) := (t_gtr hx hy).no (by omega)
theorem t_geqT {k : IntKind} (hx : topP G x = some (pK k m) := by rfl) (hy : topP G y = some (pK k n) := by rfl) (h : n ≤ m := by omega) : TOp P N ⟨d, .binOp .geq t x y u, ty, pos, aft, g⟩ G [] (.pu (pB true)) := (t_geq hx hy).yes h
theorem t_geqF {k : IntKind} (hx : topP G x = some (pK k m) := by rfl) (hy : topP G y = some (pK k n) := by rfl) (h : m < n := by omega) : TOp P N ⟨d, .binOp .geq t x y u, ty, pos, aft, g⟩ G [] (.pu (pB false)) := (t_geq hx hy).no (by omega)
theorem t_eqlT {k : IntKind} (hx : topP G x = some (pK k m) := by rfl) (hy : topP G y = some (pK k n) := by rfl) (h : m = n := by omega) : TOp P N ⟨d, .binOp .eql t x y u, ty, pos, aft, g⟩ G [] (.pu (pB true)) := (t_eql hx hy).yes h
theorem t_eqlF {k : IntKind} (hx : topP G x = some (pK k m) := by rfl) (hy : topP G y = some (pK k n) := by rfl) (h : m ≠ n := by omega) : TOp P N ⟨d, .binOp .eql t x y u, ty, pos, aft, g⟩ G [] (.pu (pB false)) := (t_eql hx hy).no h
theorem t_neqT {k : IntKind} (hx : topP G x = some (pK k m) := by rfl) (hy : topP G y = some (pK k n) := by rfl) (h : m ≠ n := by omega) : TOp P N ⟨d, .binOp .neq t x y u, ty, pos, aft, g⟩ G [] (.pu (pB true)) := (t_neq hx hy).yes h
theorem t_neqF {k : IntKind} (hx : topP G x = some (pK k m) := by rfl) (hy : topP G y = some (pK k n) := by rfl) (h : m = n := by omega) : TOp P N ⟨d, .binOp .neq t x y u, ty, pos, aft, g⟩ G [] (.pu (pB false)) := (t_neq hx hy).no (by omega)
end ints
theorem t_ext0 {x : Operand} {p q : Pub} (hx : topP G x = some (pT2 p q) := by rfl) : TOp P N ⟨d, .extract x 0, ty, pos, aft, g⟩ G [] (.pu p) := .pure [x] (by simp [Op.operands]) fun hf => by
  obtain ⟨_, h0, v, u, rfl, h1, h2⟩ := hf.op hx (by simp)
  exact op_extract (vs := [v, u]) h0 rfl ⟨rfl, h1⟩
theorem t_ext1 {x : Operand} {p q : Pub} (hx : topP G x = some (pT2 p q) := by rfl) : TOp P N ⟨d, .extract x 1, ty, pos, aft, g⟩ G [] (.pu q) := .pure [x] (by simp [Op.operands]) fun hf => by
  obtain ⟨_, h0, v, u, rfl, h1, h2⟩ := hf.op hx (by simp)
  exact op_extract (vs := [v, u]) h0 rfl ⟨rfl, h2⟩
theorem t_ext30 {x : Operand} {p q r : Pub} (hx : topP G x = some (pT3 p q r) := by rfl) : TOp P N ⟨d, .extract x 0, ty, pos, aft, g⟩ G [] (.pu p) := .pure [x] (by simp [Op.operands]) fun hf => by
  obtain ⟨_, h0, v, u, s, rfl, h1, h2, h3⟩ := hf.op hx (by simp)
  exact op_extract (vs := [v, u, s]) h0 rfl ⟨rfl, h1⟩
theorem t_ext31 {x : Operand} {p q r : Pub} (hx : topP G x = some (pT3 p q r) := by rfl) : TOp P N ⟨d, .extract x 1, ty, pos, aft, g⟩ G [] (.pu q) := .pure [x] (by simp [Op.operands]) fun hf => by
  obtain ⟨_, h0, v, u, s, rfl, h1, h2, h3⟩ := hf.op hx (by simp)
  exact op_extract (vs := [v, u, s]) h0 rfl ⟨rfl, h2⟩
theorem t_ext32 {x : Operand} {p q r : Pub} (hx : topP G x = some (pT3 p q r) := by rfl) : TOp P N ⟨d, .extract x 2, ty, pos, aft, g⟩ G [] (.pu r) := .pure [x] (by simp [Op.operands]) fun hf => by
  obtain ⟨_, h0, v, u, s, rfl, h1, h2, h3⟩ := hf.op hx (by simp)
  exact op_extract (vs := [v, u, s]) h0 rfl ⟨rfl, h3⟩
theorem t_call {f : FuncId} {args : List Operand} {argT : Array TypeId} {Ps : List Pub} {Q : Pub} (ha : topPs G args = some Ps := by rfl) (h : Fn P f Ps Q) :
    TOp P N ⟨d, .call ⟨.value (.func f), args.toArray, argT⟩, ty, pos, aft, g⟩ G [] (.pu Q) := .up args (by simp [Op.operands, Call.operands]; intro x hx; exact .inr hx) fun {M0 w0 M w fr} hr hf => by
  obtain ⟨vs, h1, h2⟩ := hf.ops ha (fun _ h => h)
  exact op_call h.ent h1 (h.run M w vs hr.mb hf.lay h2) fun v w' hv => ⟨hv.2, hv.1⟩
theorem t_len {α : Type} {E : Enc α} {x : Operand} {l : List α} {t e : TypeId} (hx : topP G x = some (pSl E l) := by rfl) (ht : USl P t e := by infer_instance) :
    TOp P N ⟨d, .call ⟨.builtin .len, #[x], #[t]⟩, ty, pos, aft, g⟩ G [] (.pu (pI l.length)) := .pure [x] (by simp [Op.operands, Call.operands]) fun hf => by
  obtain ⟨v, h0, h1⟩ := hf.op hx (by simp)
  have hl := h1.le
  exact op_len ht.out h0 h1 ⟨rfl, rfl, rng64 (by omega)⟩
theorem t_lenN {x : Operand} {t e : TypeId} (hx : topP G x = some (pv (.slice none 0 0)) := by rfl) (ht : USl P t e := by infer_instance) :
    TOp P N ⟨d, .call ⟨.builtin .len, #[x], #[t]⟩, ty, pos, aft, g⟩ G [] (.pu (pI 0)) := .pure [x] (by simp [Op.operands, Call.operands]) fun hf => by
  obtain ⟨v, h0, rfl⟩ := hf.op hx (by simp)
  exact op_lenv ht.out h0 ⟨rfl, rfl, rng64 (by omega)⟩
theorem t_lenR {x : Operand} {b n : Nat} {t e : TypeId} (hx : topP G x = some (pSr b n) := by rfl) (hn : n ≤ 9223372036854775807 := by omega) (ht : USl P t e := by infer_instance) :
    TOp P N ⟨d, .call ⟨.builtin .len, #[x], #[t]⟩, ty, pos, aft, g⟩ G [] (.pu (pI n)) := .pure [x] (by simp [Op.operands, Call.operands]) fun hf => by
  obtain ⟨v, h0, rfl⟩ := hf.op hx (by simp)
  exact op_lenv ht.out h0 ⟨rfl, rfl, rng64 (by omega)⟩
theorem t_idxN {α : Type} {E : Enc α} {x i : Operand} {l : List α} {t e : TypeId} {k : IntKind} {n : Nat} (hx : topP G x = some (pSl E l) := by rfl) (hi : topP G i = some (pK k (n : Int)) := by rfl)
    (ht : USl P t e := by infer_instance) (hE : TEc P e E := by infer_instance) (hn : n < l.length := by omega) :
    TOp P N ⟨d, .indexAddr t x i, ty, pos, aft, g⟩ G [] (.pu (pPtr E l[n])) := .pure [x, i] (by simp [Op.operands]) fun hf => by
  obtain ⟨v, h0, h1⟩ := hf.op hx (by simp)
  obtain ⟨_, h2, rfl, _⟩ := hf.op hi (by simp)
  exact op_indexAddr ht.out hE.out h0 h2 h1 (by omega) fun ad _ he => ⟨rfl, ad, rfl, he⟩
theorem t_idx {α : Type} {E : Enc α} {x i : Operand} {l : List α} {t e : TypeId} {k : IntKind} {n : Int} (hx : topP G x = some (pSl E l) := by rfl) (hi : topP G i = some (pK k n) := by rfl)
    (ht : USl P t e := by infer_instance) (hE : TEc P e E := by infer_instance) (h0 : 0 ≤ n := by omega) (hn : n.toNat < l.length := by omega) :
    TOp P N ⟨d, .indexAddr t x i, ty, pos, aft, g⟩ G [] (.pu (pPtr E l[n.toNat])) := .pure [x, i] (by simp [Op.operands]) fun hf => by
  obtain ⟨v, k0, k1⟩ := hf.op hx (by simp)
  obtain ⟨_, k2, rfl, _⟩ := hf.op hi (by simp)
  exact op_indexAddr ht.out hE.out k0 k2 k1 (by omega) fun ad _ he => ⟨rfl, ad, rfl, he⟩
theorem t_idxE {α : Type} {E : Enc α} {x i : Operand} {l : List α} {t e : TypeId} {k : IntKind} {m : Int} {n : Nat} (hx : topP G x = some (pSl E l) := by rfl) (hi : topP G i = some (pK k m) := by rfl) (hm : m = n)
    (ht : USl P t e := by infer_instance) (hE : TEc P e E := by infer_instance) (hn : n < l.length := by omega) :
    TOp P N ⟨d, .indexAddr t x i, ty, pos, aft, g⟩ G [] (.pu (pPtr E l[n])) := by subst hm; exact t_idxN hx hi ht hE hn
theorem t_load {α : Type} {E : Enc α} {x : Operand} {a : α} {t : TypeId} {Q : α → Pub} (hx : topP G x = some (pPtr E a) := by rfl) (hE : TEc P t E := by infer_instance) (hQ : LDc E Q := by infer_instance) :
    TOp P N ⟨d, .load t x, ty, pos, aft, g⟩ G [] (.pu (Q a)) := .pure [x] (by simp [Op.operands]) fun hf => by
  obtain ⟨_, h0, ad, rfl, h1⟩ := hf.op hx (by simp)
  exact op_load hE.out h0 h1 fun v hv => ⟨rfl, hQ.out hv⟩
theorem t_fa {α β : Type} {E : Enc α} {E' : Enc β} {x : Operand} {a : α} {s : TypeId} {f : Nat} {pr : α → β} {st : α → β → α} (hx : topP G x = some (pPtr E a) := by rfl) (hF : FDc P s f E E' pr st := by infer_instance) :
    TOp P N ⟨d, .fieldAddr s x f, ty, pos, aft, g⟩ G [] (.pu (pPtr E' (pr a))) := .pure [x] (by simp [Op.operands]) fun hf => by
  obtain ⟨_, h0, ad, rfl, h1⟩ := hf.op hx (by simp)
  obtain ⟨off, k1, k2, _⟩ := hF.out
  exact op_fieldAddr k1 h0 ⟨rfl, _, rfl, k2 h1⟩
theorem t_bl {α : Type} {E : Enc α} {a : α} {t : TypeId} {parts : List (Nat × Operand)} {idx : List Nat} {Qs : List Pub} (hi : parts.map (·.1) = idx := by rfl) (hx : topPs G (parts.map (·.2)) = some Qs := by rfl)
    (hB : BLc P t idx Qs E a := by infer_instance) : TOp P N ⟨d, .build t parts.toArray, ty, pos, aft, g⟩ G [] (.pu (pV E a)) := .pure (parts.map (·.2)) (by simp [Op.operands]) fun hf => by
  obtain ⟨vs, h1, h2⟩ := hf.ops hx (fun _ h => h)
  exact hB.out hi h1 h2 fun u hu => ⟨rfl, hu⟩
theorem t_sliceLH {α : Type} {E : Enc α} {x lo hi : Operand} {l : List α} {t e : TypeId} {k k' : IntKind} {m n : Int} (hx : topP G x = some (pSl E l) := by rfl) (h1 : topP G lo = some (pK k m) := by rfl) (h2 : topP G hi = some (pK k' n) := by rfl)
    (ht : USl P t e := by infer_instance) (hE : TEc P e E := by infer_instance) (hb : 0 ≤ m ∧ m ≤ n ∧ n ≤ l.length := by omega) :
    TOp P N ⟨d, .slice t x (some lo) (some hi) none, ty, pos, aft, g⟩ G [] (.pu (pSl E ((l.drop m.toNat).take (n.toNat - m.toNat)))) := .pure [x, lo, hi] (by simp [Op.operands]) fun hf => by
  obtain ⟨_, k0, k1⟩ := hf.op hx (by simp)
  obtain ⟨_, k2, rfl, _⟩ := hf.op h1 (by simp)
  obtain ⟨_, k3, rfl, _⟩ := hf.op h2 (by simp)
  exact op_slice_lh ht.out hE.out k0 k2 k3 k1 hb fun v hv => ⟨rfl, hv⟩
theorem t_bs {α : Type} {E : Enc α} {l : List α} {t e : TypeId} {n : Nat} {parts : List (Nat × Operand)} {Qs : List Pub} (hi : parts.map (·.1) = List.range' 0 n := by rfl) (hx : topPs G (parts.map (·.2)) = some Qs := by rfl)
    (ht : USl P t e := by infer_instance) (hE : TEc P e E := by infer_instance) (hv : PEL E Qs l := by infer_instance) (hn : n = l.length := by rfl)
    (hb : (l.length * E.sz ≤ 16777216 ∧ l.length * E.by_ ≤ 140737488351232) := by exact ⟨Nat.le_of_ble_eq_true rfl, Nat.le_of_ble_eq_true rfl⟩) : TOp P N ⟨d, .buildSlice t n parts.toArray, ty, pos, aft, g⟩ G [] (.pu (pSl E l)) := .up (parts.map (·.2)) (by simp [Op.operands]) fun {M0 w0 M w fr} hr hf => by
  obtain ⟨vs, h1, h2⟩ := hf.ops hx (fun _ h => h)
  exact op_buildSlice ht.out hE.out hr hi h1 (hv.out h2) hn hb fun v w' k1 _ k2 => ⟨k2, k1⟩
theorem t_app {α : Type} {E : Enc α} {y : Operand} {s tag by' : Nat} {l l2 : List α} {t e : TypeId} (hx : tlook G s = some (.gr E l tag e) := by rfl) (hy : topP G y = some (pSl E l2) := by rfl)
    (ht : USl P t e := by infer_instance) (hE : TEc P e E := by infer_instance) (hb : BYc E by' := by infer_instance)
    (hl : (l.length + l2.length) * by' ≤ 140737488351232 := by first | omega | (simp only [List.length_append, List.length_cons, List.length_nil, List.length_map, List.length_take, List.length_drop, List.length_replicate, List.length_range]; omega)) :
    TOp P N ⟨d, .call ⟨.builtin .append, #[.tmp s, y], #[t, t]⟩, ty, pos, aft, g⟩ G [tag] (.gr E (l ++ l2) tag e) := ⟨[.tmp s, y], by simp [Op.operands, Call.operands], fun {M0 w0 M w fr} hr hf => by
  obtain ⟨v, k0, k1, k2⟩ := hf.out s _ hx (.inr (by simp))
  obtain ⟨u, k3, k4⟩ := hf.op hy (by simp)
  exact op_append ht.out hE.out k0 k3 hr k1 k2 k4 (by rw [hb.out]; exact hl) fun v' w' M' h1 h2 h3 => ⟨M', StW.st h3, h1, h2⟩⟩
theorem t_idxR {α : Type} {E : Enc α} {x i : Operand} {b len tag : Nat} {l : List α} {t e : TypeId} {k : IntKind} {n : Int} (key : Nat) (hx : topP G x = some (pSr b len) := by rfl) (hi : topP G i = some (pK k n) := by rfl)
    (hg : tlook G key = some (.rw b tag E l e) := by rfl) (ht : USl P t e := by infer_instance) (hE : TEc P e E := by infer_instance) (h0 : 0 ≤ n ∧ n < len := by omega) :
    TOp P N ⟨d, .indexAddr t x i, ty, pos, aft, g⟩ G [] (.pu (pRo b E n.toNat)) := .pure [x, i] (by simp [Op.operands]) fun {B M w fr} hf => by
  obtain ⟨_, k0, rfl⟩ := hf.op hx (by simp)
  obtain ⟨_, k2, rfl, _⟩ := hf.op hi (by simp)
  obtain ⟨_, css, _, hbx⟩ := hf.out key _ hg (.inl rfl)
  obtain ⟨z, _, hT⟩ := hE.out
  exact op_indexBox ht.out hT k0 k2 hbx h0 ⟨rfl, rfl⟩
theorem t_loadR {α : Type} {E : Enc α} {x : Operand} {b tag i : Nat} {l : List α} {t e' : TypeId} {Q : α → Pub} (key : Nat) (hx : topP G x = some (pRo b E i) := by rfl) (hg : tlook G key = some (.rw b tag E l e') := by rfl)
    (hE : TEc P t E := by infer_instance) (hQ : LDc E Q := by infer_instance) (hi : i < l.length := by first | omega | (simp; done) | (simp; omega)) : TOp P N ⟨d, .load t x, ty, pos, aft, g⟩ G [] (.pu (Q l[i])) := .pure [x] (by simp [Op.operands]) fun {B M w fr} hf => by
  obtain ⟨_, k0, rfl⟩ := hf.op hx (by simp)
  obtain ⟨_, css, hc, hbx⟩ := hf.out key _ hg (.inl rfl)
  obtain ⟨z, hz, hT⟩ := hE.out
  obtain ⟨cs, c1, c2⟩ := hc.get i hi
  have hl := E.len c1
  have hV : E.V M w (mkv E.agg cs) l[i] := ⟨cs, c1, rfl⟩
  have hcss := hc.len
  have hle : i * E.sz + E.sz ≤ css.length := by
    rw [hcss, ← Nat.succ_mul]
    exact Nat.mul_le_mul_right _ hi
  cases ha : E.agg
  · rw [ha] at hT hV
    rw [E.one1 ha] at hl
    match cs, hl, c2, hV with
    | [c], _, c2, hV =>
      exact op_load1 hT k0 hbx (v := c) (by simpa using c2 0 c rfl) ⟨rfl, hQ.out hV⟩
  · rw [ha] at hT hV
    refine op_loadn hT k0 hbx hle ⟨rfl, hQ.out ?_⟩
    have e : (css.drop (i * E.sz)).take E.sz = cs := by
      apply List.ext_getElem?
      intro j
      rw [List.getElem?_take]
      split
      · rename_i hj
        rw [List.getElem?_drop]
        have hj' : j < cs.length := by omega
        rw [List.getElem?_eq_getElem hj']
        exact c2 j _ (List.getElem?_eq_getElem hj')
      · rw [List.getElem?_eq_none]; omega
    rw [e]
    simpa [mkv] using hV
theorem t_boxP {α : Type} {E : Enc α} {e : TypeId} {x : Operand} {p : Pub} {x0 : α} (hx : topP G x = some p := by rfl) (hE : TEc P e E := by infer_instance) (hp : PEc p E x0 := by infer_instance) :
    TOp P N ⟨d, .box e x, ty, pos, aft, g⟩ G [] (.pu (pPtr E x0)) := ⟨[x], by simp [Op.operands], fun {M0 w0 M w fr} hr hf => by
  obtain ⟨v, k0, k1⟩ := hf.op hx (by simp)
  obtain ⟨cs, c1, c2⟩ := hp.out k1
  have hc : v.cells = cs.toArray := by rw [c2]; exact mkv_cells c1
  have hbel := below_alloc w (.cells cs.toArray e)
  refine OP.val (v := .pointer (some ⟨w.heap.size, 0, none⟩)) (w' := w.alloc (.cells cs.toArray e)) (fun a ha => ?_) ⟨M, StW.up hr.size (UpM.of_below hbel), _, rfl, cs, E.mono c1 (X.of_below hbel), fun j c hj => ?_⟩
  · simp [execOp, ha.eval k0, Instr.box, newVar, newRow, hc]
  · rw [Addr.add_lit, Nat.zero_add]
    refine ⟨?_, fun p hp => by rw [hr.mb _ (Nat.le_refl _)] at hp; cases hp⟩
    rw [cell_of_row _ _ j _ e (0, 0) (heap_alloc_new w _)]
    simpa using hj⟩
theorem t_faB {x : Operand} {b off fo : Nat} {s : TypeId} {f : Nat} (hx : topP G x = some (pCe b off) := by rfl) (hF : FOc P s f fo := by infer_instance) : TOp P N ⟨d, .fieldAddr s x f, ty, pos, aft, g⟩ G [] (.pu (pCe b (off + fo))) := .pure [x] (by simp [Op.operands]) fun hf => by
  obtain ⟨_, h0, rfl⟩ := hf.op hx (by simp)
  exact op_fieldBox hF.out h0 ⟨rfl, rfl⟩
theorem t_loadB {x : Operand} {b off tag : Nat} {cs : List Value} {t e : TypeId} {v : Value} (key : Nat) (hx : topP G x = some (pCe b off) := by rfl) (hg : tlook G key = some (.bx b tag cs e) := by rfl) (hT : T1c P t := by infer_instance) (hv : cs[off]? = some v := by rfl) :
    TOp P N ⟨d, .load t x, ty, pos, aft, g⟩ G [] (.pu (pv v)) := .pure [x] (by simp [Op.operands]) fun {B M w fr} hf => by
  obtain ⟨_, h0, rfl⟩ := hf.op hx (by simp)
  obtain ⟨_, hbx⟩ := hf.out key _ hg (.inl rfl)
  obtain ⟨by', z, hTD⟩ := hT.out
  exact op_load1 hTD h0 hbx hv ⟨rfl, rfl⟩
theorem t_appV {α : Type} {E : Enc α} {x y : Operand} {v : Value} {tag by' : Nat} {l l2 : List α} {t e : TypeId} (key : Nat) (hx : topP G x = some (pv v) := by rfl) (hg : tlook G key = some (.gv v E l tag e) := by rfl) (hy : topP G y = some (pSl E l2) := by rfl)
    (ht : USl P t e := by infer_instance) (hE : TEc P e E := by infer_instance) (hb : BYc E by' := by infer_instance)
    (hl : (l.length + l2.length) * by' ≤ 140737488351232 := by first | omega | (simp only [List.length_append, List.length_cons, List.length_nil, List.length_map, List.length_take, List.length_drop, List.length_replicate, List.length_range]; omega)) :
    TOp P N ⟨d, .call ⟨.builtin .append, #[x, y], #[t, t]⟩, ty, pos, aft, g⟩ G [tag] (.gr E (l ++ l2) tag e) := ⟨[x, y], by simp [Op.operands, Call.operands], fun {M0 w0 M w fr} hr hf => by
  obtain ⟨_, k0, rfl⟩ := hf.op hx (by simp)
  obtain ⟨k1, k2⟩ := hf.out key _ hg (.inl rfl)
  obtain ⟨u, k3, k4⟩ := hf.op hy (by simp)
  exact op_append ht.out hE.out k0 k3 hr k1 k2 k4 (by rw [hb.out]; exact hl) fun v' w' M' h1 h2 h3 => ⟨M', StW.st h3, h1, h2⟩⟩
theorem t_stV {α : Type} {E : Enc α} {x y : Operand} {v : Value} {b off tag tg : Nat} {cs : List Value} {l : List α} {t e e' : TypeId} (key ky : Nat) (hx : topP G x = some (pCe b off) := by rfl) (hg : tlook G key = some (.bx b tag cs e) := by rfl) (hy : topP G y = some (pv v) := by rfl)
    (hv : tlook G ky = some (.gv v E l tg e') := by rfl) (hT : T1c P t := by infer_instance) (ho : Nat.ble (off + 1) cs.length = true := by rfl) :
    TOp P N ⟨d, .store t x y, ty, pos, aft, g⟩ G [tag] (.bx b tag (splice cs off [v]) e) := ⟨[x, y], by simp [Op.operands], fun {M0 w0 M w fr} hr hf => by
  obtain ⟨_, k0, rfl⟩ := hf.op hx (by simp)
  obtain ⟨_, k1, rfl⟩ := hf.op hy (by simp)
  obtain ⟨hB, hbx⟩ := hf.out key _ hg (.inl rfl)
  obtain ⟨q1, _⟩ := hf.out ky _ hv (.inl rfl)
  obtain ⟨by', z, hTD⟩ := hT.out
  obtain ⟨a, cap, rfl, _⟩ := q1.ex
  exact op_store hTD k0 k1 (c := [.slice a l.length cap]) rfl (by simp [Value.oneCell']) rfl hr hB hbx (Nat.le_of_ble_eq_true ho) fun w' hb' hst => ⟨M, StW.st hst, hB, hb'⟩⟩
theorem t_loadRE {α : Type} {E : Enc α} {x : Operand} {b tag i : Nat} {l : List α} {t e' : TypeId} {Q : α → Pub} {v : α} (key : Nat) (hx : topP G x = some (pRo b E i) := by rfl) (hg : tlook G key = some (.rw b tag E l e') := by rfl)
    (hE : TEc P t E := by infer_instance) (hQ : LDc E Q := by infer_instance) (hv : l[i]? = some v) : TOp P N ⟨d, .load t x, ty, pos, aft, g⟩ G [] (.pu (Q v)) := by
  obtain ⟨hi, rfl⟩ := List.getElem?_eq_some_iff.1 hv
  exact t_loadR key hx hg hE hQ hi
theorem t_mk {α : Type} {E : Enc α} {x y : Operand} {t e : TypeId} {k' k2 : IntKind} {n : Int} {x0 : α} {by' : Nat} (tag : Nat)
    (hx : topP G x = some (pK k' n) := by rfl) (hy : topP G y = some (pK k2 n) := by rfl) (ht : USl P t e := by infer_instance) (hE : TEc P e E := by infer_instance)
    (hz : ZEc P e E x0 := by infer_instance) (hb : BYc E by' := by infer_instance) (h0 : 0 ≤ n := by omega) (hl : by' * n.toNat ≤ 140737488351232 := by omega) (h63 : n ≤ 9223372036854775807 := by omega) :
    TOp P N ⟨d, .makeSlice t x y, ty, pos, aft, g⟩ G [] (.ow E (List.replicate n.toNat x0) tag e) := ⟨[x, y], by simp [Op.operands], fun {M0 w0 M w fr} hr hf => by
  have _ := hE
  obtain ⟨_, k0, rfl, _⟩ := hf.op hx (by simp)
  obtain ⟨_, k1, rfl, _⟩ := hf.op hy (by simp)
  obtain ⟨z, z1, z2⟩ := hz.out
  have hlz : z.length = E.sz := E.len (z2 M w)
  refine op_make tag ht.out z1 k0 k1 hr h0 (by rw [hb.out]; exact hl) h63 fun b w' M' hB hbx hup => ⟨M', StW.up hr.size hup, b, by simp, hB, _, ?_, hbx⟩
  have := CSS.replicate (E := E) (z2 M' w') n.toNat
  rwa [← madeCells_flatten, hlz] at this⟩
theorem t_faR {α β : Type} {E : Enc α} {E' : Enc β} {x : Operand} {b i : Nat} {s : TypeId} {f : Nat} {pr : α → β} {st : α → β → α} (hx : topP G x = some (pRo b E i) := by rfl) (hF : FDc P s f E E' pr st := by infer_instance) :
    TOp P N ⟨d, .fieldAddr s x f, ty, pos, aft, g⟩ G [] (.pu (pEx fun off => pAnd (FD P s f off) (pRf b E i off))) := .pure [x] (by simp [Op.operands]) fun {B M w fr} hf => by
  obtain ⟨_, h0, rfl⟩ := hf.op hx (by simp)
  obtain ⟨off, k1, k2, k3⟩ := hF.out
  exact op_fieldBox k1 h0 ⟨rfl, off, k1, rfl⟩
end
end Go.Proofs.YtocoinkhbjlbhaaDoor
end

section
namespace Go.Proofs.YtocoinkhbjlbhaaDoor
open Go Go.RowKit
section
variable (P : Program) (f : FuncId) (N : Nat) (M0 : Mut) (w0 : World)
structure Rt (todo : List Item) (G : TF) (R : Value → World → Prop) : Prop where
  out : ∀ {M w fr}, Rn M0 w0 M w → Fit w0.heap.size M w fr G → Run P f N todo fr w R
structure RLt (ops : Array Oper) (k : List Item) (R : Value → World → Prop) (l : List Oper) (G : TF) : Prop where
  out : ∀ {M w fr}, Rn M0 w0 M w → Fit w0.heap.size M w fr G → RL P f N ops k R l fr w
structure RTt (ops : Array Oper) (k : List Item) (R : Value → World → Prop) (n : Nat) (listed : Array Bool) (G : TF) : Prop where
  out : ∀ {M w fr}, Rn M0 w0 M w → Fit w0.heap.size M w fr G → RT P f N ops k R n listed fr w
end
def RetR (M0 : Mut) (w0 : World) (Q : Pub) : Value → World → Prop := fun v w => Q.p M0 w v ∧ Below w0.heap.size w0 w
def Has (G : TF) (t : Nat) (T : Kd) : Prop := ∀ {B M w fr}, Fit B M w fr G → T.E B M w fr t
def SubT : TF → TF → Prop
  | [], _ => True
  | (t, T) :: r, G => Has G t T ∧ SubT r G
theorem SubT.fit {B : Nat} {M : Mut} {w : World} {fr : Fr} {G : TF} (hf : Fit B M w fr G) : ∀ {F : TF}, SubT F G → Fit B M w fr F
  | [], _ => ⟨hf.lay, fun t T h _ => by cases h⟩
  | (k, U) :: r, h => ⟨hf.lay, fun t T hT _ => by
    by_cases e : k = t
    · subst e
      rw [tlook_eq] at hT
      cases hT
      exact h.1 hf
    · rw [tlook_ne _ _ e] at hT
      exact (SubT.fit hf h.2).out t T hT (.inr trivial)⟩
section
variable {G : TF} {t : Nat}
theorem has_rfl {T : Kd} (h : tlook G t = some T) : Has G t T := fun hf => hf.out t T h (.inr trivial)
theorem has_nil {α : Type} {E : Enc α} {tag : Nat} {e : TypeId} (h : tlook G t = some (.pu (pv (.slice none 0 0)))) : Has G t (.gr E [] tag e) := fun hf => by
  obtain ⟨v, h1, rfl⟩ := hf.out t _ h (.inr trivial)
  exact ⟨_, h1, SlOf.nil _ _ _, Grow.nil⟩
theorem has_int {k : IntKind} {m n : Int} (h : tlook G t = some (.pu (pK k m))) (e : m = n) : Has G t (.pu (pK k n)) := e ▸ has_rfl h
theorem has_sl {α : Type} {E : Enc α} {l l' : List α} (h : tlook G t = some (.pu (pSl E l))) (e : l = l') : Has G t (.pu (pSl E l')) := e ▸ has_rfl h
end
section
variable {P : Program} {f : FuncId} {N : Nat} {M0 : Mut} {w0 : World} {R : Value → World → Prop} {G : TF} {k : List Item}
theorem Rt.sub {todo : List Item} {F : TF} (h : Rt P f N M0 w0 todo F R) (hs : SubT F G) : Rt P f N M0 w0 todo G R := ⟨fun hr hf => h.out hr (hs.fit hf)⟩
theorem c_seq {x y : Code} (h : Rt P f N M0 w0 (.code x :: .code y :: k) G R) : Rt P f N M0 w0 (.code (.seq x y) :: k) G R := ⟨fun hr hf => run_seq (h.out hr hf)⟩
theorem c_skip (h : Rt P f N M0 w0 k G R) : Rt P f N M0 w0 (.code .skip :: k) G R := ⟨fun hr hf => run_skip (h.out hr hf)⟩
theorem c_label {l : Nat} (h : Rt P f N M0 w0 k G R) : Rt P f N M0 w0 (.code (.label l) :: k) G R := ⟨fun hr hf => run_label (h.out hr hf)⟩
theorem c_block {id : Nat} {c : Code} (h : Rt P f N M0 w0 (.code c :: .inBlock id :: k) G R) : Rt P f N M0 w0 (.code (.block id c) :: k) G R := ⟨fun hr hf => run_block (h.out hr hf)⟩
theorem c_inBlock {id : Nat} (h : Rt P f N M0 w0 k G R) : Rt P f N M0 w0 (.inBlock id :: k) G R := ⟨fun hr hf => run_inBlock (h.out hr hf)⟩
theorem c_exit {id : Nat} {k' : List Item} (h : Rt P f N M0 w0 k' G R) (hk : exitTo id k = some k' := by rfl) : Rt P f N M0 w0 (.code (.exit id) :: k) G R := ⟨fun hr hf => run_exit hk (h.out hr hf)⟩
theorem c_true {c : Operand} {x y : Code} (h : Rt P f N M0 w0 (.code x :: k) G R) (hc : topP G c = some (pB true) := by rfl) : Rt P f N M0 w0 (.code (.cond c x y) :: k) G R := ⟨fun hr hf => by
  obtain ⟨_, h1, rfl⟩ := hf.op0 hc (fun _ _ => trivial)
  exact run_true h1 (h.out hr hf)⟩
theorem c_false {c : Operand} {x y : Code} (h : Rt P f N M0 w0 (.code y :: k) G R) (hc : topP G c = some (pB false) := by rfl) : Rt P f N M0 w0 (.code (.cond c x y) :: k) G R := ⟨fun hr hf => by
  obtain ⟨_, h1, rfl⟩ := hf.op0 hc (fun _ _ => trivial)
  exact run_false h1 (h.out hr hf)⟩
theorem c_if {c : Operand} {x y : Code} {p : Prop} [Decidable p] (ht : p → Rt P f N M0 w0 (.code x :: k) G R) (hf : ¬ p → Rt P f N M0 w0 (.code y :: k) G R) (hc : topP G c = some (pB (decide p)) := by rfl) :
    Rt P f N M0 w0 (.code (.cond c x y) :: k) G R := by
  by_cases h : p
  · exact c_true (ht h) (by rw [hc, decide_eq_true h])
  · exact c_false (hf h) (by rw [hc, decide_eq_false h])
theorem c_ifb {c : Operand} {x y : Code} {b : Bool} (ht : b = true → Rt P f N M0 w0 (.code x :: k) G R) (hf : b = false → Rt P f N M0 w0 (.code y :: k) G R) (hc : topP G c = some (pB b) := by rfl) :
    Rt P f N M0 w0 (.code (.cond c x y) :: k) G R := by
  cases b
  · exact c_false (hf rfl) hc
  · exact c_true (ht rfl) hc
theorem c_loop {α : Type} {c : Code} (F : α → TF) (J : α → Prop) (μ : α → Nat) (x0 : α) (h0 : J x0) (hs : SubT (F x0) G)
    (round : ∀ x, J x → (∀ y, J y → μ y < μ x → Rt P f N M0 w0 (.inLoop c :: k) (F y) R) → Rt P f N M0 w0 (.code c :: .inLoop c :: k) (F x) R) :
    Rt P f N M0 w0 (.code (.loop c) :: k) G R := by
  have key : ∀ n x, μ x = n → J x → Rt P f N M0 w0 (.code c :: .inLoop c :: k) (F x) R := by
    intro n
    induction n using Nat.strongRecOn with
    | _ n ih =>
      intro x hn hJ
      refine round x hJ fun y hJ' hlt => ⟨fun hr hf => ?_⟩
      exact ⟨fun a ha => (((ih (μ y) (hn ▸ hlt) y rfl hJ').out hr hf).out a ha).step fun _ _ => .one step_inLoop⟩
  exact ⟨fun hr hf => ⟨fun a ha => (((key _ x0 rfl h0).out hr (hs.fit hf)).out a ha).step fun _ _ => .one step_loop⟩⟩
theorem c_reg {id : Nat} {l : List Oper} (h : RLt P f N M0 w0 l.toArray k R l G) : Rt P f N M0 w0 (.code (.region id l.toArray false) :: k) G R := ⟨fun hr hf => run_region_l (h.out hr hf)⟩
theorem c_ret1 {fn : Func} {t : Nat} {p Q : Pub} (hf : P.funcs[f]? = some fn) (hr : fn.results = #[.tmp t]) (h : ∀ {M w v}, p.p M w v → Q.p M w v) (hp : topP G (.tmp t) = some p := by rfl) :
    Rt P f N M0 w0 (.code .ret :: k) G (RetR M0 w0 Q) := ⟨fun {M w fr} hrn hfit => by
  obtain ⟨v, h1, h2⟩ := hfit.op0 hp (fun _ _ => trivial)
  exact run_ret1 hf hr h1 ⟨Q.mono hrn.fin (h h2), hrn.bel⟩⟩
theorem c_ret2 {fn : Func} {t u : Nat} {p q Q : Pub} (hf : P.funcs[f]? = some fn) (hr : fn.results = #[.tmp t, .tmp u]) (h : ∀ {M w v x}, p.p M w v → q.p M w x → Q.p M w (.tuple #[v, x])) (hp : topP G (.tmp t) = some p := by rfl) (hq : topP G (.tmp u) = some q := by rfl) :
    Rt P f N M0 w0 (.code .ret :: k) G (RetR M0 w0 Q) := ⟨fun {M w fr} hrn hfit => by
  obtain ⟨v, h1, h2⟩ := hfit.op0 hp (fun _ _ => trivial)
  obtain ⟨x, h3, h4⟩ := hfit.op0 hq (fun _ _ => trivial)
  exact run_ret2 hf hr h1 h3 ⟨Q.mono hrn.fin (h h2 h4), hrn.bel⟩⟩
theorem c_ret3 {fn : Func} {t u s : Nat} {p q r Q : Pub} (hf : P.funcs[f]? = some fn) (hr : fn.results = #[.tmp t, .tmp u, .tmp s]) (h : ∀ {M w v x y}, p.p M w v → q.p M w x → r.p M w y → Q.p M w (.tuple #[v, x, y]))
    (hp : topP G (.tmp t) = some p := by rfl) (hq : topP G (.tmp u) = some q := by rfl) (hs : topP G (.tmp s) = some r := by rfl) :
    Rt P f N M0 w0 (.code .ret :: k) G (RetR M0 w0 Q) := ⟨fun {M w fr} hrn hfit => by
  obtain ⟨v, h1, h2⟩ := hfit.op0 hp (fun _ _ => trivial)
  obtain ⟨x, h3, h4⟩ := hfit.op0 hq (fun _ _ => trivial)
  obtain ⟨y, h5, h6⟩ := hfit.op0 hs (fun _ _ => trivial)
  exact run_ret3 hf hr h1 h3 h5 ⟨Q.mono hrn.fin (h h2 h4 h6), hrn.bel⟩⟩
theorem c_retC {α : Type} {E : Enc α} {fn : Func} {t u : Nat} {b tag : Nat} {x : α} {e : TypeId} {Q : Pub} (hf : P.funcs[f]? = some fn) (hr : fn.results = #[.cell t u]) (key : Nat) (h : ∀ {M w v}, E.V M w v x → Q.p M w v) (ha : E.agg = true := by rfl)
    (hp : topP G (.tmp t) = some (pRo b E 0) := by rfl) (hg : tlook G key = some (.rw b tag E [x] e) := by rfl) (hE : TEc P u E := by infer_instance) : Rt P f N M0 w0 (.code .ret :: k) G (RetR M0 w0 Q) := ⟨fun {M w fr} hrn hfit => by
  obtain ⟨v, h1, h2⟩ := hfit.op0 hp (fun _ _ => trivial)
  obtain ⟨hB, css, hc, hbx⟩ := hfit.out key _ hg (.inr trivial)
  obtain ⟨z, hz, hT⟩ := hE.out
  rw [ha] at hT
  have hlen := hc.len
  obtain ⟨cs, r, e1, hR, hr2⟩ := hc
  cases hr2
  rw [List.append_nil] at e1
  subst e1
  have h3 : v = .pointer (some ⟨b, 0, none⟩) := by rw [show v = _ from h2]; simp
  refine run_retc hf hr (h1.trans (by rw [h3])) hT hbx (by simpa using hlen) ⟨Q.mono hrn.fin (h ⟨_, hR, by rw [ha]; rfl⟩), hrn.bel⟩⟩
theorem c_have {todo : List Item} (t : Nat) {q : Pub} {φ : Prop} (hq : ∀ {M w v}, q.p M w v → φ) (h : φ → Rt P f N M0 w0 todo G R) (ht : topP G (.tmp t) = some q := by rfl) : Rt P f N M0 w0 todo G R := ⟨fun hr hf => by
  obtain ⟨v, _, h2⟩ := hf.op0 ht (fun _ _ => trivial)
  exact (h (hq h2)).out hr hf⟩
theorem c_to {todo : List Item} (t : Nat) (T : Kd) (hh : Has G t T) (h : Rt P f N M0 w0 todo ((t, T) :: G) R) : Rt P f N M0 w0 todo G R := ⟨fun hr hf => h.out hr (hf.hide (hh hf))⟩
section
variable {ops : Array Oper} {d : Nat} {op : Op} {ty : TypeId} {pos : String} {aft : Array Edge} {rest : List Oper} {T : Kd}
theorem c_rnil (h : Rt P f N M0 w0 k G R) : RLt P f N M0 w0 ops k R [] G := ⟨fun hr hf => rl_nil (h.out hr hf)⟩
theorem c_op (h : TOp P N ⟨some d, op, ty, pos, aft, none⟩ G [] T) (hk : RLt P f N M0 w0 ops k R rest ((d, T) :: G)) (hd : d < N := by decide) : RLt P f N M0 w0 ops k R (⟨some d, op, ty, pos, aft, none⟩ :: rest) G := ⟨fun hr hf =>
  rl_step hd ((h.fit hr hf).mono fun _ _ ⟨_, hs, hv⟩ => hk.out (hr.stw hs) ((hf.up hs).cons hv))⟩
theorem c_opW {W : List Nat} (h : TOp P N ⟨some d, op, ty, pos, aft, none⟩ G W T) (hk : RLt P f N M0 w0 ops k R rest ((d, T) :: dropW W G)) (hd : d < N := by decide) : RLt P f N M0 w0 ops k R (⟨some d, op, ty, pos, aft, none⟩ :: rest) G := ⟨fun hr hf =>
  rl_step hd ((h.fit hr hf).mono fun _ _ ⟨_, hs, hv⟩ => hk.out (hr.stw hs) ((hf.after hs).cons hv))⟩
theorem Kd.E_of_V {B : Nat} {M : Mut} {w : World} {v : Value} {fr : Fr} {t : Nat} {T : Kd} (hg : T.ghost = true) (h : T.V B M w v) : T.E B M w fr t := by
  cases T with
  | rw b tag E l e => exact h
  | bx b tag cs e => exact h
  | gv u E l tag e => exact h
  | gh g => exact h
  | _ => simp [Kd.ghost] at hg
theorem c_st (key : Nat) {W : List Nat} (h : TOp P N ⟨none, op, ty, pos, aft, none⟩ G W T) (hk : RLt P f N M0 w0 ops k R rest ((key, T) :: dropW W G)) (hg : T.ghost = true := by rfl) : RLt P f N M0 w0 ops k R (⟨none, op, ty, pos, aft, none⟩ :: rest) G := ⟨fun hr hf =>
  rl_step0 ((h.fit hr hf).mono fun _ _ ⟨_, hs, hv⟩ => hk.out (hr.stw hs) ((hf.after hs).hide (Kd.E_of_V hg hv)))⟩
theorem c_yes {j dj : Nat} {want : Bool} (h : RLt P f N M0 w0 ops k R (⟨some d, op, ty, pos, aft, none⟩ :: rest) G) (hj : (ops[j]?).bind (·.dst) = some dj := by rfl) (hg : topP G (.tmp dj) = some (pB want) := by rfl) :
    RLt P f N M0 w0 ops k R (⟨some d, op, ty, pos, aft, some (j, want)⟩ :: rest) G := ⟨fun hr hf => by
  obtain ⟨v, h1, rfl⟩ := hf.op0 hg (fun _ _ => trivial)
  exact rl_yes hj h1 (h.out hr hf)⟩
theorem c_no {j dj : Nat} {want b : Bool} (h : RLt P f N M0 w0 ops k R rest ((d, .pu (pv undef)) :: G)) (hj : (ops[j]?).bind (·.dst) = some dj := by rfl) (hg : topP G (.tmp dj) = some (pB b) := by rfl) (hb : (b == want) = false := by rfl) (hd : d < N := by decide) :
    RLt P f N M0 w0 ops k R (⟨some d, op, ty, pos, aft, some (j, want)⟩ :: rest) G := ⟨fun hr hf => by
  obtain ⟨v, h1, rfl⟩ := hf.op0 hg (fun _ _ => trivial)
  exact rl_no hj h1 hb hd (h.out hr (hf.cons (T := .pu (pv undef)) rfl))⟩
theorem c_noU {j dj : Nat} {want : Bool} (h : RLt P f N M0 w0 ops k R rest ((d, .pu (pv undef)) :: G)) (hj : (ops[j]?).bind (·.dst) = some dj := by rfl) (hg : topP G (.tmp dj) = some (pv undef) := by rfl) (hd : d < N := by decide) :
    RLt P f N M0 w0 ops k R (⟨some d, op, ty, pos, aft, some (j, want)⟩ :: rest) G := ⟨fun hr hf => by
  obtain ⟨v, h1, rfl⟩ := hf.op0 hg (fun _ _ => trivial)
  exact rl_noU hj h1 hd (h.out hr (hf.cons (T := .pu (pv undef)) rfl))⟩
theorem r_ex {l : List Oper} {α : Type} (t : Nat) {q : α → Pub} (h : ∀ a, RLt P f N M0 w0 ops k R l ((t, .pu (q a)) :: G)) (ht : topP G (.tmp t) = some (pEx q) := by rfl) : RLt P f N M0 w0 ops k R l G := ⟨fun hr hf => by
  obtain ⟨v, h1, a, h2⟩ := hf.op0 ht (fun _ _ => trivial)
  exact (h a).out hr (hf.hide ⟨v, h1, h2⟩)⟩
theorem r_and {l : List Oper} (t : Nat) {φ : Prop} {q : Pub} (h : φ → RLt P f N M0 w0 ops k R l ((t, .pu q) :: G)) (ht : topP G (.tmp t) = some (pAnd φ q) := by rfl) : RLt P f N M0 w0 ops k R l G := ⟨fun hr hf => by
  obtain ⟨v, h1, h2, h3⟩ := hf.op0 ht (fun _ _ => trivial)
  exact (h h2).out hr (hf.hide ⟨v, h1, h3⟩)⟩
theorem r_to {l : List Oper} (t : Nat) (T : Kd) (hh : Has G t T) (h : RLt P f N M0 w0 ops k R l ((t, T) :: G)) : RLt P f N M0 w0 ops k R l G := ⟨fun hr hf => h.out hr (hf.hide (hh hf))⟩
theorem c_make {α : Type} {E : Enc α} {x y : Operand} {t e : TypeId} {k' k2 : IntKind} {n : Int} {x0 : α} {by' : Nat} (tag key : Nat)
    (hk : ∀ b, RLt P f N M0 w0 ops k R rest ((d, .pu (pSr b n.toNat)) :: (key, .rw b tag E (List.replicate n.toNat x0) e) :: G))
    (hx : topP G x = some (pK k' n) := by rfl) (hy : topP G y = some (pK k2 n) := by rfl) (ht : USl P t e := by infer_instance) (hE : TEc P e E := by infer_instance)
    (hz : ZEc P e E x0 := by infer_instance) (hb : BYc E by' := by infer_instance) (h0 : 0 ≤ n := by omega) (hl : by' * n.toNat ≤ 140737488351232 := by omega) (h63 : n ≤ 9223372036854775807 := by omega) (hd : d < N := by decide) :
    RLt P f N M0 w0 ops k R (⟨some d, .makeSlice t x y, ty, pos, aft, none⟩ :: rest) G := ⟨fun {M w fr} hr hf => by
  obtain ⟨_, k0, rfl, _⟩ := hf.op0 hx (fun _ _ => trivial)
  obtain ⟨_, k1, rfl, _⟩ := hf.op0 hy (fun _ _ => trivial)
  obtain ⟨z, z1, z2⟩ := hz.out
  have hlz : z.length = E.sz := E.len (z2 M w)
  refine rl_step hd (op_make tag ht.out z1 k0 k1 hr h0 (by rw [hb.out]; exact hl) h63 fun b w' M' hB hbx hup => ?_)
  refine (hk b).out (hr.up hup) (Fit.cons (Fit.hide (hf.up (StW.up hr.size hup)) ?_) rfl)
  refine ⟨hB, _, ?_, hbx⟩
  have := CSS.replicate (E := E) (z2 M' w') n.toNat
  rwa [← madeCells_flatten, hlz] at this⟩
theorem c_alloc {α : Type} {E : Enc α} {e : TypeId} {x0 : α} (tag key : Nat) (hk : ∀ b, RLt P f N M0 w0 ops k R rest ((d, .pu (pRo b E 0)) :: (key, .rw b tag E [x0] e) :: G)) (hz : ZEc P e E x0 := by infer_instance) (hd : d < N := by decide) :
    RLt P f N M0 w0 ops k R (⟨some d, .alloc e, ty, pos, aft, none⟩ :: rest) G := ⟨fun {M w fr} hr hf => by
  obtain ⟨z, z1, z2⟩ := hz.out
  refine rl_step hd (op_alloc tag hr z1 fun b w' M' hB hbx hup => ?_)
  refine (hk b).out (hr.up hup) (Fit.cons (Fit.hide (hf.up (StW.up hr.size hup)) ?_) ?_)
  · exact ⟨hB, z, ⟨z, [], (List.append_nil z).symm, z2 M' w', rfl⟩, hbx⟩
  · simp [Kd.V, pRo, pv]⟩
end
theorem c_row {todo : List Item} {α : Type} {E : Enc α} {l : List α} {tag : Nat} {e : TypeId} (t key : Nat) (h : ∀ b, Rt P f N M0 w0 todo ((t, .pu (pSr b l.length)) :: (key, .rw b tag E l e) :: G) R) (ht : tlook G t = some (.ow E l tag e) := by rfl) : Rt P f N M0 w0 todo G R := ⟨fun hr hf => by
  obtain ⟨b, h1, h2⟩ := hf.out t _ ht (.inr trivial)
  exact (h b).out hr (Fit.hide (Fit.hide (T := .rw b tag E l e) hf h2) ⟨_, h1, rfl⟩)⟩
theorem r_name {ops : Array Oper} {l : List Oper} {α : Type} {E : Enc α} {ls : List α} {tag : Nat} {e : TypeId} (t key : Nat) (h : ∀ v, RLt P f N M0 w0 ops k R l ((t, .pu (pv v)) :: (key, .gv v E ls tag e) :: G)) (ht : tlook G t = some (.gr E ls tag e) := by rfl) : RLt P f N M0 w0 ops k R l G := ⟨fun hr hf => by
  obtain ⟨v, h1, h2⟩ := hf.out t _ ht (.inr trivial)
  exact (h v).out hr (Fit.hide (Fit.hide (T := .gv v E ls tag e) hf h2) ⟨v, h1, rfl⟩)⟩
theorem q_name {ops : Array Oper} {n : Nat} {listed : Array Bool} {α : Type} {E : Enc α} {ls : List α} {tag : Nat} {e : TypeId} (t key : Nat) (h : ∀ v, RTt P f N M0 w0 ops k R n listed ((t, .pu (pv v)) :: (key, .gv v E ls tag e) :: G)) (ht : tlook G t = some (.gr E ls tag e) := by rfl) : RTt P f N M0 w0 ops k R n listed G := ⟨fun hr hf => by
  obtain ⟨v, h1, h2⟩ := hf.out t _ ht (.inr trivial)
  exact (h v).out hr (Fit.hide (Fit.hide (T := .gv v E ls tag e) hf h2) ⟨v, h1, rfl⟩)⟩
theorem c_nilV {todo : List Item} {α : Type} (E : Enc α) (tag : Nat) (e : TypeId) (key : Nat) (h : Rt P f N M0 w0 todo ((key, .gv (.slice none 0 0) E [] tag e) :: G) R) : Rt P f N M0 w0 todo G R := ⟨fun hr hf => h.out hr (Fit.hide (T := .gv (.slice none 0 0) E [] tag e) hf ⟨SlOf.nil _ _ _, Grow.nil⟩)⟩
theorem c_allocB {ops : Array Oper} {d : Nat} {ty : TypeId} {pos : String} {aft : Array Edge} {rest : List Oper} {e : TypeId} {sz by' : Nat} {agg : Bool} {z : List Value} (tag key : Nat) (hT : TD P e sz by' agg z)
    (hk : ∀ b, RLt P f N M0 w0 ops k R rest ((d, .pu (pCe b 0)) :: (key, .bx b tag z e) :: G)) (hd : d < N := by decide) :
    RLt P f N M0 w0 ops k R (⟨some d, .alloc e, ty, pos, aft, none⟩ :: rest) G := ⟨fun {M w fr} hr hf => by
  refine rl_step hd (op_alloc tag hr hT fun b w' M' hB hbx hup => ?_)
  exact (hk b).out (hr.up hup) (Fit.cons (T := .pu (pCe b 0)) (Fit.hide (T := .bx b tag z e) (hf.up (StW.up hr.size hup)) ⟨hB, hbx⟩) rfl)⟩
theorem c_frz {todo : List Item} {α : Type} {E : Enc α} {b tag n : Nat} {l : List α} {e : TypeId} {by' : Nat} (t key : Nat) (h : Rt P f N M0 w0 todo ((t, .pu (pSl E l)) :: (key, .no) :: dropW [tag] G) R)
    (ht : topP G (.tmp t) = some (pSr b n) := by rfl) (hg : tlook G key = some (.rw b tag E l e) := by rfl) (hb : BYc E by' := by infer_instance) (hn : n = l.length := by first | rfl | simp) (hl : n * by' ≤ 140737488351232 := by omega) : Rt P f N M0 w0 todo G R := ⟨fun {M w fr} hr hf => by
  obtain ⟨v, h1, rfl⟩ := hf.op0 ht (fun _ _ => trivial)
  obtain ⟨hB, css, h2, h3⟩ := hf.out key _ hg (.inr trivial)
  obtain ⟨k1, k2⟩ := h3.freeze h2 (by rw [hb.out, ← hn]; exact hl) hB
  have hs := StW.st k2
  refine h.out (hr.stw hs) (Fit.hide (Fit.hide (T := .no) (hf.after hs) trivial) ⟨_, h1, ?_⟩)
  rw [← hn] at k1
  exact k1⟩
end
section
variable {P : Program} {N : Nat} {G : TF} {d : Option Tmp} {ty : TypeId} {pos : String} {aft : Array Edge} {g : Option (Nat × Bool)}
theorem t_st {α : Type} {E : Enc α} {x y : Operand} {b tag i : Nat} {l : List α} {t e : TypeId} {p : Pub} {x' : α} (key : Nat) (hx : topP G x = some (pRo b E i) := by rfl) (hg : tlook G key = some (.rw b tag E l e) := by rfl) (hy : topP G y = some p := by rfl)
    (hp : PEc p E x' := by infer_instance) (hE : TEc P t E := by infer_instance) (hi : i < l.length := by first | omega | (simp; done) | (simp; omega)) :
    TOp P N ⟨d, .store t x y, ty, pos, aft, g⟩ G [tag] (.rw b tag E (l.set i x') e) := ⟨[x, y], by simp [Op.operands], fun {M0 w0 M w fr} hr hf => by
  obtain ⟨_, k0, rfl⟩ := hf.op hx (by simp)
  obtain ⟨v, k1, k2⟩ := hf.op hy (by simp)
  obtain ⟨hB, css, hc, hbx⟩ := hf.out key _ hg (.inl rfl)
  obtain ⟨z, hz, hT⟩ := hE.out
  obtain ⟨cs, c1, c2⟩ := hp.out k2
  have hcl := E.len c1
  have hle : i * E.sz + cs.length ≤ css.length := by
    rw [hcl, hc.len, ← Nat.succ_mul]
    exact Nat.mul_le_mul_right _ hi
  refine op_store hT k0 k1 (by rw [c2]; exact mkv_cells c1) (E.one c1) hcl hr hB hbx hle fun w' hb' hst => ⟨M, StW.st hst, hB, _, ?_, hb'⟩
  have := hc.update i hi 0 cs x' (fun cs0 h0 => by
    have hl0 := E.len h0
    unfold splice
    rw [List.take_zero, List.nil_append, List.drop_of_length_le (by omega), List.append_nil]
    exact c1) (by omega)
  rw [Nat.add_zero] at this
  exact this.mono hst.x⟩
theorem t_stF {α β : Type} {E : Enc α} {E' : Enc β} {x y : Operand} {b tag i off : Nat} {l : List α} {s t e : TypeId} {fd : Nat} {pr : α → β} {st : α → β → α} {p : Pub} {y' : β} (key : Nat) (hF : FDc P s fd E E' pr st) (hoff : FD P s fd off)
    (hx : topP G x = some (pRf b E i off) := by rfl) (hg : tlook G key = some (.rw b tag E l e) := by rfl) (hy : topP G y = some p := by rfl)
    (hp : PEc p E' y' := by infer_instance) (hE : TEc P t E' := by infer_instance) (hi : i < l.length := by first | omega | (simp; done) | (simp; omega)) :
    TOp P N ⟨d, .store t x y, ty, pos, aft, g⟩ G [tag] (.rw b tag E (l.set i (st l[i] y')) e) := ⟨[x, y], by simp [Op.operands], fun {M0 w0 M w fr} hr hf => by
  obtain ⟨_, k0, rfl⟩ := hf.op hx (by simp)
  obtain ⟨v, k1, k2⟩ := hf.op hy (by simp)
  obtain ⟨hB, css, hc, hbx⟩ := hf.out key _ hg (.inl rfl)
  obtain ⟨z, hz, hT⟩ := hE.out
  obtain ⟨cs, c1, c2⟩ := hp.out k2
  have hcl := E'.len c1
  obtain ⟨off', q1, q2, q3⟩ := hF.out
  have hoe : off' = off := by
    obtain ⟨fs, fd1, i1, a1, a2, a3, _⟩ := q1
    obtain ⟨fs2, fd2, i2, b1, b2, b3, _⟩ := hoff
    rw [a1] at b1
    cases b1
    rw [a2] at b2
    cases b2
    omega
  subst hoe
  obtain ⟨cs1, d1, _⟩ := hc.get i hi
  have hfit := (q3 d1 c1).1
  have hle : i * E.sz + off' + cs.length ≤ css.length := by
    have : i * E.sz + E.sz ≤ css.length := by
      rw [hc.len, ← Nat.succ_mul]
      exact Nat.mul_le_mul_right _ hi
    omega
  refine op_store hT k0 k1 (by rw [c2]; exact mkv_cells c1) (E'.one c1) hcl hr hB hbx hle fun w' hb' hst => ⟨M, StW.st hst, hB, _, ?_, hb'⟩
  exact (hc.update i hi off' cs (st l[i] y') (fun cs0 h0 => (q3 h0 c1).2) hfit).mono hst.x⟩
end
def raws (B : Nat) (L : TF) : List (Nat × Ty) := L.map fun p => (p.1, fun M w v => p.2.V B M w v)
theorem TyAll.of_fit {B : Nat} {M : Mut} {w : World} {φ : Fr → Prop} : ∀ (L : TF) {fr : Fr} {G : TF}, Fit B M w fr G → (∀ fr', Fit B M w fr' (L.reverse ++ G) → φ fr') → TyAll (raws B L) M w φ fr
  | [], fr, G, hf, h => h fr (by simpa using hf)
  | (d, T) :: r, fr, G, hf, h => fun v hv => by
    refine TyAll.of_fit r (hf.cons hv) fun fr' hf' => h fr' ?_
    simpa using hf'
theorem tlook_append {L G : TF} {t : Nat} : tlook (L ++ G) t = match tlook L t with | some T => some T | none => tlook G t := by
  induction L with
  | nil => rfl
  | cons p r ih =>
    obtain ⟨k, U⟩ := p
    by_cases e : k = t
    · subst e
      simp [tlook_eq]
    · rw [List.cons_append, tlook_ne _ _ e, tlook_ne _ _ e, ih]
theorem tlook_filter {S : Nat → Bool} {t : Nat} (hS : S t = true) : ∀ (L : TF), tlook (L.filter fun p => S p.1) t = tlook L t
  | [] => rfl
  | (k, U) :: r => by
    by_cases e : k = t
    · subst e
      rw [List.filter_cons_of_pos (by simpa using hS), tlook_eq, tlook_eq]
    · rw [tlook_ne _ _ e]
      rw [List.filter_cons]
      split
      · rw [tlook_ne _ _ e]; exact tlook_filter hS r
      · exact tlook_filter hS r
theorem seen_raws {B : Nat} {ops : Array Oper} {o : Oper} {L : TF} : seenBy ops o (raws B L) = raws B (L.filter fun p => (o.looksAt ops).any (Nat.beq p.1)) := by
  unfold seenBy raws
  rw [List.filter_map]
  rfl
section
variable (P : Program) (f : FuncId) (N : Nat) (M0 : Mut) (w0 : World)
structure DRt (pl : Plan) (ops : Array Oper) (k : List Item) (R : Value → World → Prop) (Wa : List Nat) (n : Nat) (listed : Array Bool) (G : TF) (l : List Oper) (L : TF) : Prop where
  out : ∀ {M1 w1 fr}, Rn M0 w0 M1 w1 → Fit w0.heap.size M1 w1 fr G →
    DR (RelW w0.heap.size) pl P N ops fr M1 w1 (fun Z => ∀ M' w', StW w0.heap.size Wa M1 w1 M' w' → TyAll Z M' w' (fun fr' => RT P f N ops k R n listed fr' w') fr) l (raws w0.heap.size L)
end
section
variable {P : Program} {f : FuncId} {N : Nat} {M0 : Mut} {w0 : World} {R : Value → World → Prop} {G L : TF} {k : List Item}
theorem c_draw {id : Nat} {l : List Oper} (pl : Plan) (m n : Nat) (F : List Nat) (Wa : List Nat) (hm : P.follows .mixedOrders = true) (hok : drawOk N l.toArray m F pl = true) (hn : l.length = m + n) (hW : ran pl m (Array.replicate m true) = Wa)
    (h : DRt P f N M0 w0 pl l.toArray k R Wa n (Array.replicate m true ++ Array.replicate n false) G (l.take m) []) : Rt P f N M0 w0 (.code (.region id l.toArray true) :: k) G R := ⟨fun {M w fr} hr hf => by
  refine region_dg (M := M) (relW_ok w0.heap.size) pl m n F hm hn hok fun w1 hup => ?_
  have hr1 := hr.up hup
  have := h.out hr1 (hf.up (StW.up hr.size hup))
  subst hW
  exact this⟩
theorem c_draw0 {id : Nat} {l : List Oper} (hm : P.follows .mixedOrders = true) (hok : drawOk N l.toArray l.length [] {} = true) (h : DRt P f N M0 w0 {} l.toArray k R [] 0 (Array.replicate l.length true) G l []) :
    Rt P f N M0 w0 (.code (.region id l.toArray true) :: k) G R := by
  refine c_draw {} l.length 0 [] [] hm hok rfl ?_ ?_
  · apply List.eq_nil_iff_forall_not_mem.2
    intro t ht
    obtain ⟨j, _, _, hj⟩ := mem_ran.1 ht
    simp [Plan.t] at hj
  · rw [List.take_length]
    simpa using h
section
variable {pl : Plan} {ops : Array Oper} {Wa : List Nat} {n m : Nat} {listed : Array Bool} {l : List Oper} {d : Nat} {op : Op} {ty : TypeId} {pos : String} {aft : Array Edge} {T : Kd}
theorem dg_cons' {S : Rel} {Z : List (Nat × Ty)} {fr : Fr} {M1 : Mut} {w1 : World} {fin : List (Nat × Ty) → Prop} {gd : Option (Nat × Bool)} (T : Ty) (hd : d < N) (hT : Stab S (pl.o Z.length) T)
    (hob : Ob P N S (pl.b Z.length) (pl.t Z.length) ops fr M1 w1 ⟨some d, op, ty, pos, aft, gd⟩ Z.reverse T)
    (h : DR S pl P N ops fr M1 w1 fin l ((d, T) :: Z)) : DR S pl P N ops fr M1 w1 fin (⟨some d, op, ty, pos, aft, gd⟩ :: l) Z := by
  have := dg_cons (n := l.length) (l := l) T hd hT hob (by rw [List.take_length]; exact h)
  rwa [List.take_succ_cons, List.take_length] at this
theorem mem_looks {ops : Array Oper} {o : Oper} {t : Nat} (h : Operand.tmp t ∈ o.op.operands) : (o.looksAt ops).any (Nat.beq t) = true :=
  List.any_eq_true.2 ⟨t, List.mem_append_left _ (List.mem_filterMap.2 ⟨.tmp t, by simpa using h, rfl⟩), nbeq_self t⟩
theorem any_rev {o : Oper} {B : Nat} {M1 : Mut} {w1 : World} {fr : Fr} {W : List Nat} {M : Mut} {w : World} {φ : Fr → Prop} (hf : Fit B M1 w1 fr G) (hs : StW B W M1 w1 M w)
    (h : ∀ fr', Fit B M w fr' ((L.reverse.filter fun p => (o.looksAt ops).any (Nat.beq p.1)).reverse ++ dropW W G) → φ fr') : TyAll (seenBy ops o (raws B L).reverse) M w φ fr := by
  have e : (raws B L).reverse = raws B L.reverse := by unfold raws; rw [List.map_reverse]
  rw [e, seen_raws]
  exact TyAll.of_fit _ (hf.after hs) h
theorem looks_of {o : Oper} {t : Nat} {G' : TF} (h : (o.looksAt ops).any (Nat.beq t) = true) : tlook ((L.reverse.filter fun p => (o.looksAt ops).any (Nat.beq p.1)).reverse ++ G') t = tlook (L ++ G') t := by
  rw [tlook_append, tlook_append, ← List.filter_reverse, List.reverse_reverse, tlook_filter (S := fun t => (o.looksAt ops).any (Nat.beq t)) h]
theorem TOp.seen {o : Oper} {W : List Nat} {G' : TF} (h : TOp P N o (L ++ G') W T) (hG : ∀ t T, tlook L t = some T → T.ghost = false) {B : Nat} {M : Mut} {w : World} {fr : Fr} (hf : Fit B M w fr ((L.reverse.filter fun p => (o.looksAt ops).any (Nat.beq p.1)).reverse ++ G'))
    {M0 : Mut} {w0 : World} (hr : Rn M0 w0 M w) (hB : B = w0.heap.size) : OP P N o fr w (fun v w' => ∃ M', StW w0.heap.size W M w M' w' ∧ T.V w0.heap.size M' w' v) := by
  subst hB
  obtain ⟨xs, h1, h2⟩ := h.out
  refine h2 hr ⟨hf.lay, fun t T hT hc => ?_⟩
  rcases hc with hc | hc
  · 
    by_cases hs : (o.looksAt ops).any (Nat.beq t) = true
    · exact hf.out t T (by rw [looks_of hs]; exact hT) (.inr trivial)
    · have hL : tlook L t = none := by
        rw [tlook_append] at hT
        split at hT
        · rename_i U hU
          cases hT
          rw [hG t T hU] at hc
          cases hc
        · assumption
      refine hf.out t T ?_ (.inr trivial)
      rw [tlook_append, hL] at hT
      rw [tlook_append]
      have : tlook (L.reverse.filter fun p => (o.looksAt ops).any (Nat.beq p.1)).reverse t = none := by
        rw [← List.filter_reverse, List.reverse_reverse]
        clear hf h h1 h2 hG
        induction L with
        | nil => rfl
        | cons p r ih =>
          obtain ⟨q, U⟩ := p
          have hne : q ≠ t := fun e => by subst e; rw [tlook_eq] at hL; cases hL
          rw [tlook_ne _ _ hne] at hL
          rw [List.filter_cons]
          split
          · rw [tlook_ne _ _ hne]; exact ih hL
          · exact ih hL
      rw [this]
      exact hT
  · exact hf.out t T (by rw [looks_of (mem_looks (h1 _ hc))]; exact hT) (.inr trivial)
def plain : TF → Bool
  | [] => true
  | (_, T) :: r => !T.ghost && plain r
theorem plain_spec : ∀ {L : TF}, plain L = true → ∀ t T, tlook L t = some T → T.ghost = false
  | [], _, t, T, h => by cases h
  | (q, U) :: r, hp, t, T, h => by
    simp only [plain, Bool.and_eq_true, Bool.not_eq_true'] at hp
    by_cases e : q = t
    · subst e
      rw [tlook_eq] at h
      cases h
      exact hp.1
    · rw [tlook_ne _ _ e] at h
      exact plain_spec hp.2 t T h
theorem d_op (h : TOp P N ⟨some d, op, ty, pos, aft, none⟩ (L ++ dropW (pl.b L.length) G) (pl.t L.length) T) (hk : DRt P f N M0 w0 pl ops k R Wa n listed G l ((d, T) :: L))
    (hp : plain L = true := by rfl) (hT : T.keep (pl.o L.length) = true := by rfl) (hd : d < N := by decide) : DRt P f N M0 w0 pl ops k R Wa n listed G (⟨some d, op, ty, pos, aft, none⟩ :: l) L := ⟨fun {M1 w1 fr} hr hf => by
  have hl : (raws w0.heap.size L).length = L.length := by simp [raws]
  refine dg_cons' (fun M w v => T.V w0.heap.size M w v) hd (fun M w M' w' v hs hv => Kd.V_keep hv hs (by rw [hl]; exact hT)) (fun M w hs => ?_) (hk.out hr hf)
  rw [hl] at hs
  refine any_rev hf hs fun fr' hf' => opg ?_
  rw [hl]
  exact h.seen (plain_spec hp) hf' (hr.stw hs) rfl⟩
theorem d_yes {j dj : Nat} {want : Bool} (h : TOp P N ⟨some d, op, ty, pos, aft, some (j, want)⟩ (L ++ dropW (pl.b L.length) G) (pl.t L.length) T) (hk : DRt P f N M0 w0 pl ops k R Wa n listed G l ((d, T) :: L))
    (hj : (ops[j]?).bind (·.dst) = some dj := by rfl) (hg : topP (L ++ dropW (pl.b L.length) G) (.tmp dj) = some (pB want) := by rfl)
    (hp : plain L = true := by rfl) (hT : T.keep (pl.o L.length) = true := by rfl) (hd : d < N := by decide) : DRt P f N M0 w0 pl ops k R Wa n listed G (⟨some d, op, ty, pos, aft, some (j, want)⟩ :: l) L := ⟨fun {M1 w1 fr} hr hf => by
  have hl : (raws w0.heap.size L).length = L.length := by simp [raws]
  refine dg_cons' (fun M w v => T.V w0.heap.size M w v) hd (fun M w M' w' v hs hv => Kd.V_keep hv hs (by rw [hl]; exact hT)) (fun M w hs => ?_) (hk.out hr hf)
  rw [hl] at hs
  refine any_rev hf hs fun fr' hf' => ?_
  have hm : (Oper.looksAt ops ⟨some d, op, ty, pos, aft, some (j, want)⟩).any (Nat.beq dj) = true := by
    refine List.any_eq_true.2 ⟨dj, List.mem_append_right _ ?_, nbeq_self dj⟩
    simp [hj]
  have hg' : topP ((L.reverse.filter fun p => (Oper.looksAt ops ⟨some d, op, ty, pos, aft, some (j, want)⟩).any (Nat.beq p.1)).reverse ++ dropW (pl.b L.length) G) (.tmp dj) = some (pB want) := by
    simp only [topP, looks_of hm]
    exact hg
  obtain ⟨v, h1, rfl⟩ := hf'.op0 hg' (fun _ _ => trivial)
  refine opg_yes hj h1 ?_
  rw [hl]
  exact h.seen (plain_spec hp) hf' (hr.stw hs) rfl⟩
theorem d_no {j dj : Nat} {want b : Bool} (hk : DRt P f N M0 w0 pl ops k R Wa n listed G l ((d, .pu (pv undef)) :: L))
    (hj : (ops[j]?).bind (·.dst) = some dj := by rfl) (hg : topP (L ++ dropW (pl.b L.length) G) (.tmp dj) = some (pB b) := by rfl) (hb : (b == want) = false := by rfl)
    (hd : d < N := by decide) (ht : pl.t L.length = [] := by rfl) : DRt P f N M0 w0 pl ops k R Wa n listed G (⟨some d, op, ty, pos, aft, some (j, want)⟩ :: l) L := ⟨fun {M1 w1 fr} hr hf => by
  have hl : (raws w0.heap.size L).length = L.length := by simp [raws]
  refine dg_cons' (fun M w v => Kd.V w0.heap.size M w v (.pu (pv undef))) hd (fun M w M' w' v hs hv => hv) (fun M w hs => ?_) (hk.out hr hf)
  rw [hl] at hs
  refine any_rev hf hs fun fr' hf' => ?_
  have hm : (Oper.looksAt ops ⟨some d, op, ty, pos, aft, some (j, want)⟩).any (Nat.beq dj) = true := by
    refine List.any_eq_true.2 ⟨dj, List.mem_append_right _ ?_, nbeq_self dj⟩
    simp [hj]
  have hg' : topP ((L.reverse.filter fun p => (Oper.looksAt ops ⟨some d, op, ty, pos, aft, some (j, want)⟩).any (Nat.beq p.1)).reverse ++ dropW (pl.b L.length) G) (.tmp dj) = some (pB b) := by
    simp only [topP, looks_of hm]
    exact hg
  obtain ⟨v, h1, rfl⟩ := hf'.op0 hg' (fun _ _ => trivial)
  refine opg_no hj h1 (fun e => by subst e; cases b <;> cases hb) ?_
  rw [hl, ht]
  exact ⟨M, StW.refl _ _ _, rfl⟩⟩
theorem d_nil (h : RTt P f N M0 w0 ops k R n listed (L ++ dropW Wa G)) : DRt P f N M0 w0 pl ops k R Wa n listed G [] L := ⟨fun {M1 w1 fr} hr hf => by
  refine ⟨?_⟩
  intro M' w' hs
  have e : (raws w0.heap.size L).reverse = raws w0.heap.size L.reverse := by unfold raws; rw [List.map_reverse]
  rw [e]
  refine TyAll.of_fit _ (hf.after hs) fun fr' hf' => ?_
  rw [List.reverse_reverse] at hf'
  exact h.out (hr.stw hs) hf'⟩
theorem q_nil (h : Rt P f N M0 w0 k G R) (hr : Region.ready .any ops listed = []) : RTt P f N M0 w0 ops k R n listed G := ⟨fun hrn hf => rt_nil hr (h.out hrn hf)⟩
theorem q_op (i : Nat) {W : List Nat} (hr : Region.ready .any ops listed = [i]) (ho : ops[i]? = some ⟨some d, op, ty, pos, aft, none⟩) (h : TOp P N ⟨some d, op, ty, pos, aft, none⟩ G W T)
    (hk : RTt P f N M0 w0 ops k R n (listed.setIfInBounds i true) ((d, T) :: dropW W G)) (hd : d < N := by decide) : RTt P f N M0 w0 ops k R (n + 1) listed G := ⟨fun hrn hf =>
  rt_one hr ho hd ((h.fit hrn hf).mono fun _ _ ⟨_, hs, hv⟩ => hk.out (hrn.stw hs) ((hf.after hs).cons hv))⟩
theorem q_st (i key : Nat) {W : List Nat} (hr : Region.ready .any ops listed = [i]) (ho : ops[i]? = some ⟨none, op, ty, pos, aft, none⟩) (h : TOp P N ⟨none, op, ty, pos, aft, none⟩ G W T)
    (hk : RTt P f N M0 w0 ops k R n (listed.setIfInBounds i true) ((key, T) :: dropW W G)) (hg : T.ghost = true := by rfl) : RTt P f N M0 w0 ops k R (n + 1) listed G := ⟨fun hrn hf =>
  rt_one0 hr ho ((h.fit hrn hf).mono fun _ _ ⟨_, hs, hv⟩ => hk.out (hrn.stw hs) ((hf.after hs).hide (Kd.E_of_V hg hv)))⟩
end
end
def argTF : Nat → List Pub → TF
  | _, [] => []
  | i, p :: r => (i, .pu p) :: argTF (i + 1) r
theorem fit_args {B : Nat} {M : Mut} {w : World} (hl : Lays M w) : ∀ {Ps : List Pub} {vs : List Value} (i : Nat), FitL M w Ps vs → Fit B M w (argFr i vs) (argTF i Ps)
  | [], [], _, _ => ⟨hl, fun t T h _ => by cases h⟩
  | p :: r, v :: s, i, h => by
    have := fit_args (B := B) hl (i + 1) h.2
    exact ⟨hl, fun t T hT _ => by
      by_cases e : i = t
      · subst e
        rw [argTF, tlook_eq] at hT
        cases hT
        exact ⟨v, look_cons_eq _ _ _, h.1⟩
      · rw [argTF, tlook_ne _ _ e] at hT
        exact Kd.E_look (this.out t T hT (.inr trivial)) (by rw [argFr, look_cons_ne _ _ e])⟩
  | [], _ :: _, _, h => h.elim
  | _ :: _, [], _, h => h.elim
theorem FitL.len {M : Mut} {w : World} : ∀ {Ps : List Pub} {vs : List Value}, FitL M w Ps vs → vs.length = Ps.length
  | [], [], _ => rfl
  | _ :: _, _ :: _, h => by simp [h.2.len]
  | [], _ :: _, h => h.elim
  | _ :: _, [], h => h.elim
theorem fn_of {P : Program} {f : FuncId} {N : Nat} {fn : Func} {c : Code} {Ps : List Pub} {Q : Pub} (he : Ent P f) (hf : P.funcs[f]? = some fn) (hb : fn.body = some c) (hN : fn.ntmps = N) (hn : Nat.ble Ps.length N = true)
    (h : ∀ M0 w0, Rt P f N M0 w0 [.code c] (argTF 0 Ps) (RetR M0 w0 Q)) : Fn P f Ps Q := ⟨he, fun M w vs hm hl hv => by
  have hlen := hv.len
  exact callsV_of_run hf hb hN (by rw [hlen]; exact Nat.le_of_ble_eq_true hn) ((h M w).out (Rn.refl hm) (fit_args hl 0 hv))⟩
end Go.Proofs.YtocoinkhbjlbhaaDoor
end

section
namespace Go.Proofs.YtocoinkhbjlbhaaDoor
open Go Go.RowKit
structure Line where
  frm : Int
  til : Int
  gaps : List Int
  notes : List Int
def eLine : Enc Line := ((eI.app eI).app ((eSl eI).app (eSl eI))).via (fun L => ((L.frm, L.til), (L.gaps, L.notes))) 64 (by decide)
theorem eLine_R {M : Mut} {w : World} {cs : List Value} {L : Line} : eLine.R M w cs L ↔ ∃ g n, cs = [.int .i64 L.frm, .int .i64 L.til, g, n] ∧ I64 L.frm ∧ I64 L.til ∧ SlOf eI M w g L.gaps ∧ SlOf eI M w n L.notes := by
  constructor
  · rintro ⟨a, b, rfl, ⟨a1, a2, rfl, ⟨rfl, h1, _⟩, ⟨rfl, h2, _⟩⟩, ⟨b1, b2, rfl, ⟨g, rfl, h3⟩, ⟨n, rfl, h4⟩⟩⟩
    exact ⟨g, n, rfl, h1 rfl, h2 rfl, h3, h4⟩
  · rintro ⟨g, n, rfl, h1, h2, h3, h4⟩
    exact ⟨_, _, rfl, ⟨_, _, rfl, ⟨rfl, fun _ => h1, fun e => by cases e⟩, ⟨rfl, fun _ => h2, fun e => by cases e⟩⟩, ⟨_, _, rfl, ⟨g, rfl, h3⟩, ⟨n, rfl, h4⟩⟩⟩
theorem eLine_V {M : Mut} {w : World} {v : Value} {L : Line} : eLine.V M w v L ↔ ∃ g n, v = .agg #[.int .i64 L.frm, .int .i64 L.til, g, n] ∧ I64 L.frm ∧ I64 L.til ∧ SlOf eI M w g L.gaps ∧ SlOf eI M w n L.notes := by
  constructor
  · rintro ⟨cs, h, rfl⟩
    obtain ⟨g, n, rfl, h'⟩ := eLine_R.1 h
    exact ⟨g, n, rfl, h'⟩
  · rintro ⟨g, n, rfl, h⟩
    exact ⟨_, eLine_R.2 ⟨g, n, rfl, h⟩, rfl⟩
theorem Elem.line {M : Mut} {w : World} {ad : Addr} {L : Line} (h : Elem eLine M w ad L) :
    Elem eI M w (ad.add 0) L.frm ∧ Elem eI M w (ad.add 1) L.til ∧ Elem (eSl eI) M w (ad.add 2) L.gaps ∧ Elem (eSl eI) M w (ad.add 3) L.notes := by
  obtain ⟨cs, hR, hc⟩ := h
  obtain ⟨g, n, rfl, h1, h2, h3, h4⟩ := eLine_R.1 hR
  refine ⟨⟨[_], ⟨rfl, fun _ => h1, fun e => by cases e⟩, fun j c hj => ?_⟩, ⟨[_], ⟨rfl, fun _ => h2, fun e => by cases e⟩, fun j c hj => ?_⟩, ⟨[_], ⟨g, rfl, h3⟩, fun j c hj => ?_⟩, ⟨[_], ⟨n, rfl, h4⟩, fun j c hj => ?_⟩⟩ <;>
  · cases j with
    | succ j => simp at hj
    | zero =>
      simp at hj
      subst hj
      rw [add_add']
      exact hc _ _ rfl
theorem line_gaps {M : Mut} {w : World} {cs : List Value} {L : Line} {u : Value} (h : eLine.R M w cs L) (hu : SlOf eI M w u L.gaps) : eLine.R M w (splice cs 2 [u]) L := by
  obtain ⟨g, n, rfl, h1, h2, h3, h4⟩ := eLine_R.1 h
  exact eLine_R.2 ⟨u, n, rfl, h1, h2, hu, h4⟩
theorem line_notes {M : Mut} {w : World} {cs : List Value} {L : Line} {u : Value} (h : eLine.R M w cs L) (hu : SlOf eI M w u L.notes) : eLine.R M w (splice cs 3 [u]) L := by
  obtain ⟨g, n, rfl, h1, h2, h3, h4⟩ := eLine_R.1 h
  exact eLine_R.2 ⟨g, u, rfl, h1, h2, h3, hu⟩
structure Pg where
  num : Int
  suf : Int
  entry : Int
  version : Int
  body : List Line
  notes : List Line
def ePg : Enc Pg := ((((eI.app eI).app (eI.app eI)).app ((eSl eLine).app (eSl eLine)))).via (fun p => (((p.num, p.suf), (p.entry, p.version)), (p.body, p.notes))) 80 (by decide)
theorem ePg_R {M : Mut} {w : World} {cs : List Value} {p : Pg} : ePg.R M w cs p ↔ ∃ b n, cs = [.int .i64 p.num, .int .i64 p.suf, .int .i64 p.entry, .int .i64 p.version, b, n] ∧ (I64 p.num ∧ I64 p.suf ∧ I64 p.entry ∧ I64 p.version) ∧ SlOf eLine M w b p.body ∧ SlOf eLine M w n p.notes := by
  constructor
  · rintro ⟨a, b, rfl, ⟨a1, a2, rfl, ⟨a3, a4, rfl, ⟨rfl, h1, _⟩, ⟨rfl, h2, _⟩⟩, ⟨a5, a6, rfl, ⟨rfl, h5, _⟩, ⟨rfl, h6, _⟩⟩⟩, ⟨b1, b2, rfl, ⟨g, rfl, h3⟩, ⟨n, rfl, h4⟩⟩⟩
    exact ⟨g, n, rfl, ⟨h1 rfl, h2 rfl, h5 rfl, h6 rfl⟩, h3, h4⟩
  · rintro ⟨g, n, rfl, ⟨h1, h2, h5, h6⟩, h3, h4⟩
    exact ⟨_, _, rfl, ⟨_, _, rfl, ⟨_, _, rfl, ⟨rfl, fun _ => h1, fun e => by cases e⟩, ⟨rfl, fun _ => h2, fun e => by cases e⟩⟩, ⟨_, _, rfl, ⟨rfl, fun _ => h5, fun e => by cases e⟩, ⟨rfl, fun _ => h6, fun e => by cases e⟩⟩⟩, ⟨_, _, rfl, ⟨g, rfl, h3⟩, ⟨n, rfl, h4⟩⟩⟩
theorem ePg_V {M : Mut} {w : World} {v : Value} {p : Pg} : ePg.V M w v p ↔ ∃ b n, v = .agg #[.int .i64 p.num, .int .i64 p.suf, .int .i64 p.entry, .int .i64 p.version, b, n] ∧ (I64 p.num ∧ I64 p.suf ∧ I64 p.entry ∧ I64 p.version) ∧ SlOf eLine M w b p.body ∧ SlOf eLine M w n p.notes := by
  constructor
  · rintro ⟨cs, h, rfl⟩
    obtain ⟨g, n, rfl, h'⟩ := ePg_R.1 h
    exact ⟨g, n, rfl, h'⟩
  · rintro ⟨g, n, rfl, h⟩
    exact ⟨_, ePg_R.2 ⟨g, n, rfl, h⟩, rfl⟩
theorem uL : Tryd.prog.underlying 33 = some (.slice 42) := Tryd.underlying33
theorem uLL : Tryd.prog.underlying 34 = some (.slice 33) := Tryd.underlying34
theorem uI : Tryd.prog.underlying 22 = some (.slice 3) := Tryd.underlying22
theorem uP : Tryd.prog.underlying 48 = some (.slice 57) := Tryd.underlying48
theorem tdI : TD Tryd.prog 3 1 8 false [.int .i64 0] := TD.mk' (z := .int .i64 0) (d := .int .i64) (by kernel_rfl) (by kernel_rfl) rfl
theorem tdB : TD Tryd.prog 4 1 1 false [.bool false] := TD.mk' (z := .bool false) (d := .bool) (by kernel_rfl) (by kernel_rfl) rfl
theorem tdSI : TD Tryd.prog 22 1 24 false [.slice none 0 0] := TD.mk' (z := .slice none 0 0) (d := .slice 3) (by kernel_rfl) (by kernel_rfl) rfl
theorem tdSL : TD Tryd.prog 33 1 24 false [.slice none 0 0] := TD.mk' (z := .slice none 0 0) (d := .slice 42) (by kernel_rfl) (by kernel_rfl) rfl
theorem tdL : TD Tryd.prog 42 4 64 true [.int .i64 0, .int .i64 0, .slice none 0 0, .slice none 0 0] := by
  exact TD.mk' (z := .agg #[.int .i64 0, .int .i64 0, .slice none 0 0, .slice none 0 0]) (by kernel_rfl) Tryd.underlying42 rfl
theorem tdP : TD Tryd.prog 57 6 80 true [.int .i64 0, .int .i64 0, .int .i64 0, .int .i64 0, .slice none 0 0, .slice none 0 0] := by
  exact TD.mk' (z := .agg #[.int .i64 0, .int .i64 0, .int .i64 0, .int .i64 0, .slice none 0 0, .slice none 0 0]) (by kernel_rfl) Tryd.underlying57 rfl
theorem teI : TE Tryd.prog 3 eI := ⟨_, rfl, tdI⟩
theorem teSI : TE Tryd.prog 22 (eSl eI) := ⟨_, rfl, tdSI⟩
theorem teSL : TE Tryd.prog 33 (eSl eLine) := ⟨_, rfl, tdSL⟩
theorem teL : TE Tryd.prog 42 eLine := ⟨_, rfl, tdL⟩
theorem teP : TE Tryd.prog 57 ePg := ⟨_, rfl, tdP⟩
theorem FD.mk' {P : Program} {s : TypeId} {f off : Nat} {fs : Array Field} (h : P.underlying s = some (.struct fs)) (h2 : ((fs[f]?).bind fun fd => (P.info? fd.type).map fun i => (fd.offset, i.size == 0)) = some (off, false)) : FD P s f off := by
  cases hf : fs[f]? with
  | none => simp [hf] at h2
  | some fd =>
    cases hi : P.info? fd.type with
    | none => simp [hf, hi] at h2
    | some i =>
      simp [hf, hi] at h2
      exact ⟨fs, fd, i, h, hf, h2.1, hi, h2.2⟩
theorem FV.mk' {P : Program} {s : TypeId} {f off sz : Nat} {agg : Bool} {fs : Array Field} (h : P.underlying s = some (.struct fs))
    (h2 : ((fs[f]?).bind fun fd => (P.info? fd.type).bind fun i => (P.underlying fd.type).map fun d => (fd.offset, i.size, aggD d)) = some (off, sz, agg)) : FV P s f off sz agg := by
  cases hf : fs[f]? with
  | none => simp [hf] at h2
  | some fd =>
    cases hi : P.info? fd.type with
    | none => simp [hf, hi] at h2
    | some i =>
      cases hu : P.underlying fd.type with
      | none => simp [hf, hi, hu] at h2
      | some d =>
        simp [hf, hi, hu] at h2
        exact ⟨fs, fd, i, d, h, hf, h2.1, hi, h2.2.1, hu, h2.2.2⟩
theorem fdL0 : FD Tryd.prog 42 0 0 := FD.mk' Tryd.underlying42 (by kernel_rfl)
theorem fdL1 : FD Tryd.prog 42 1 1 := FD.mk' Tryd.underlying42 (by kernel_rfl)
theorem fdL2 : FD Tryd.prog 42 2 2 := FD.mk' Tryd.underlying42 (by kernel_rfl)
theorem fdL3 : FD Tryd.prog 42 3 3 := FD.mk' Tryd.underlying42 (by kernel_rfl)
theorem fvL0 : FV Tryd.prog 42 0 0 1 false := FV.mk' Tryd.underlying42 (by kernel_rfl)
theorem fvL1 : FV Tryd.prog 42 1 1 1 false := FV.mk' Tryd.underlying42 (by kernel_rfl)
theorem fvL2 : FV Tryd.prog 42 2 2 1 false := FV.mk' Tryd.underlying42 (by kernel_rfl)
theorem fvL3 : FV Tryd.prog 42 3 3 1 false := FV.mk' Tryd.underlying42 (by kernel_rfl)
theorem fdP0 : FD Tryd.prog 57 0 0 := FD.mk' Tryd.underlying57 (by kernel_rfl)
theorem fdP1 : FD Tryd.prog 57 1 2 := FD.mk' Tryd.underlying57 (by kernel_rfl)
theorem fdP2 : FD Tryd.prog 57 2 3 := FD.mk' Tryd.underlying57 (by kernel_rfl)
theorem fdP3 : FD Tryd.prog 57 3 4 := FD.mk' Tryd.underlying57 (by kernel_rfl)
theorem fdP4 : FD Tryd.prog 57 4 5 := FD.mk' Tryd.underlying57 (by kernel_rfl)
theorem fvP3 : FV Tryd.prog 57 3 4 1 false := FV.mk' Tryd.underlying57 (by kernel_rfl)
theorem fvP4 : FV Tryd.prog 57 4 5 1 false := FV.mk' Tryd.underlying57 (by kernel_rfl)
theorem sbL : SB Tryd.prog 42 [(0, 1), (1, 1), (2, 1), (3, 1)] [.int .i64 0, .int .i64 0, .slice none 0 0, .slice none 0 0] :=
  ⟨⟨_, Tryd.underlying42, fun w => by kernel_rfl⟩, ⟨.agg #[.int .i64 0, .int .i64 0, .slice none 0 0, .slice none 0 0], fun w => ⟨by kernel_rfl, rfl⟩⟩⟩
theorem sbP : SB Tryd.prog 57 [(0, 2), (2, 1), (3, 1), (4, 1), (5, 1)] [.int .i64 0, .int .i64 0, .int .i64 0, .int .i64 0, .slice none 0 0, .slice none 0 0] :=
  ⟨⟨_, Tryd.underlying57, fun w => by kernel_rfl⟩, ⟨.agg #[.int .i64 0, .int .i64 0, .int .i64 0, .int .i64 0, .slice none 0 0, .slice none 0 0], fun w => ⟨by kernel_rfl, rfl⟩⟩⟩
theorem mixed : Tryd.prog.follows .mixedOrders = true := by kernel_rfl
theorem Ent.mk' {P : Program} {g : FuncId} {fn : Func} (h : P.funcs[g]? = some fn) (h2 : ((fn.name == "runtime.NumGoroutine"), fn.body.isNone) = (false, false)) : Ent P g := by
  simp only [Prod.mk.injEq] at h2
  exact ⟨fn, h, h2.1, h2.2⟩
theorem ent6 : Ent Tryd.prog 6 := Ent.mk' Tryd.func6 (by kernel_rfl)
theorem ent8 : Ent Tryd.prog 8 := Ent.mk' Tryd.func8 (by kernel_rfl)
theorem ent9 : Ent Tryd.prog 9 := Ent.mk' Tryd.func9 (by kernel_rfl)
theorem ent11 : Ent Tryd.prog 11 := Ent.mk' Tryd.func11 (by kernel_rfl)
theorem ent17 : Ent Tryd.prog 17 := Ent.mk' Tryd.func17 (by kernel_rfl)
theorem ent19 : Ent Tryd.prog 19 := Ent.mk' Tryd.func19 (by kernel_rfl)
theorem ent20 : Ent Tryd.prog 20 := Ent.mk' Tryd.func20 (by kernel_rfl)
theorem ent21 : Ent Tryd.prog 21 := Ent.mk' Tryd.func21 (by kernel_rfl)
theorem ent23 : Ent Tryd.prog 23 := Ent.mk' Tryd.func23 (by kernel_rfl)
theorem ent25 : Ent Tryd.prog 25 := Ent.mk' Tryd.func25 (by kernel_rfl)
theorem ent27 : Ent Tryd.prog 27 := Ent.mk' Tryd.func27 (by kernel_rfl)
theorem ent28 : Ent Tryd.prog 28 := Ent.mk' Tryd.func28 (by kernel_rfl)
theorem ent29 : Ent Tryd.prog 29 := Ent.mk' Tryd.func29 (by kernel_rfl)
theorem ent30 : Ent Tryd.prog 30 := Ent.mk' Tryd.func30 (by kernel_rfl)
theorem ent31 : Ent Tryd.prog 31 := Ent.mk' Tryd.func31 (by kernel_rfl)
theorem ent32 : Ent Tryd.prog 32 := Ent.mk' Tryd.func32 (by kernel_rfl)
theorem ent36 : Ent Tryd.prog 36 := Ent.mk' Tryd.func36 (by kernel_rfl)
theorem ent38 : Ent Tryd.prog 38 := Ent.mk' Tryd.func38 (by kernel_rfl)
theorem ent39 : Ent Tryd.prog 39 := Ent.mk' Tryd.func39 (by kernel_rfl)
theorem ent40 : Ent Tryd.prog 40 := Ent.mk' Tryd.func40 (by kernel_rfl)
theorem ent42 : Ent Tryd.prog 42 := Ent.mk' Tryd.func42 (by kernel_rfl)
theorem ent43 : Ent Tryd.prog 43 := Ent.mk' Tryd.func43 (by kernel_rfl)
theorem ent44 : Ent Tryd.prog 44 := Ent.mk' Tryd.func44 (by kernel_rfl)
theorem ent45 : Ent Tryd.prog 45 := Ent.mk' Tryd.func45 (by kernel_rfl)
theorem ent47 : Ent Tryd.prog 47 := Ent.mk' Tryd.func47 (by kernel_rfl)
theorem ent48 : Ent Tryd.prog 48 := Ent.mk' Tryd.func48 (by kernel_rfl)
theorem ent49 : Ent Tryd.prog 49 := Ent.mk' Tryd.func49 (by kernel_rfl)
theorem ent50 : Ent Tryd.prog 50 := Ent.mk' Tryd.func50 (by kernel_rfl)
theorem ent52 : Ent Tryd.prog 52 := Ent.mk' Tryd.func52 (by kernel_rfl)
theorem ent53 : Ent Tryd.prog 53 := Ent.mk' Tryd.func53 (by kernel_rfl)
theorem ent54 : Ent Tryd.prog 54 := Ent.mk' Tryd.func54 (by kernel_rfl)
theorem ent55 : Ent Tryd.prog 55 := Ent.mk' Tryd.func55 (by kernel_rfl)
theorem ent56 : Ent Tryd.prog 56 := Ent.mk' Tryd.func56 (by kernel_rfl)
theorem ent62 : Ent Tryd.prog 62 := Ent.mk' Tryd.func62 (by kernel_rfl)
theorem ent63 : Ent Tryd.prog 63 := Ent.mk' Tryd.func63 (by kernel_rfl)
theorem ent64 : Ent Tryd.prog 64 := Ent.mk' Tryd.func64 (by kernel_rfl)
theorem ent65 : Ent Tryd.prog 65 := Ent.mk' Tryd.func65 (by kernel_rfl)
theorem ent70 : Ent Tryd.prog 70 := Ent.mk' Tryd.func70 (by kernel_rfl)
theorem ent71 : Ent Tryd.prog 71 := Ent.mk' Tryd.func71 (by kernel_rfl)
theorem ent72 : Ent Tryd.prog 72 := Ent.mk' Tryd.func72 (by kernel_rfl)
theorem ent74 : Ent Tryd.prog 74 := Ent.mk' Tryd.func74 (by kernel_rfl)
theorem ent80 : Ent Tryd.prog 80 := Ent.mk' Tryd.func80 (by kernel_rfl)
theorem ent85 : Ent Tryd.prog 85 := Ent.mk' Tryd.func85 (by kernel_rfl)
theorem ent86 : Ent Tryd.prog 86 := Ent.mk' Tryd.func86 (by kernel_rfl)
theorem ent88 : Ent Tryd.prog 88 := Ent.mk' Tryd.func88 (by kernel_rfl)
theorem ent90 : Ent Tryd.prog 90 := Ent.mk' Tryd.func90 (by kernel_rfl)
theorem ent95 : Ent Tryd.prog 95 := Ent.mk' Tryd.func95 (by kernel_rfl)
end Go.Proofs.YtocoinkhbjlbhaaDoor
end

section
namespace Go.Proofs.YtocoinkhbjlbhaaDoor
open Go Go.RowKit
structure Lens {α β : Type} (E : Enc α) (off : Nat) (E' : Enc β) (pr : α → β) (st : α → β → α) : Prop where
  fit : off + E'.sz ≤ E.sz
  sub : ∀ {M : Mut} {w : World} {cs : List Value} {x : α}, E.R M w cs x → E'.R M w ((cs.drop off).take E'.sz) (pr x)
  set : ∀ {M : Mut} {w : World} {cs c : List Value} {x : α} {y : β}, E.R M w cs x → E'.R M w c y → E.R M w (splice cs off c) (st x y)
section
variable {α β γ δ : Type} {E : Enc α} {A : Enc α} {B : Enc β} {F : Enc γ} {off : Nat}
theorem Lens.id (E : Enc α) : Lens E 0 E (fun x => x) (fun _ y => y) :=
  ⟨by omega, fun h => by rw [List.drop_zero, List.take_of_length_le (by rw [E.len h]; omega)]; exact h, fun h h2 => by
    unfold splice
    rw [List.take_zero, List.nil_append, List.drop_of_length_le (by rw [E.len h, E.len h2]; omega), List.append_nil]
    exact h2⟩
theorem Lens.left (B : Enc β) {pr : α → γ} {st : α → γ → α} (h : Lens A off F pr st) : Lens (A.app B) off F (fun x => pr x.1) (fun x y => (st x.1 y, x.2)) :=
  ⟨by have := h.fit; show off + F.sz ≤ A.sz + B.sz; omega, fun {M w cs x} ⟨a, b, e, h1, h2⟩ => by
    subst e
    have hl := A.len h1
    have := h.fit
    rw [List.drop_append_of_le_length (by omega), List.take_append_of_le_length (by rw [List.length_drop]; omega)]
    exact h.sub h1, fun {M w cs c x y} ⟨a, b, e, h1, h2⟩ hc => by
    subst e
    have hl := A.len h1
    have hcl := F.len hc
    have := h.fit
    rw [splice_left (by omega)]
    exact ⟨_, b, rfl, h.set h1 hc, h2⟩⟩
theorem Lens.right (A : Enc α) {pr : β → γ} {st : β → γ → β} (h : Lens B off F pr st) : Lens (A.app B) (A.sz + off) F (fun x => pr x.2) (fun x y => (x.1, st x.2 y)) :=
  ⟨by have := h.fit; show A.sz + off + F.sz ≤ A.sz + B.sz; omega, fun {M w cs x} ⟨a, b, e, h1, h2⟩ => by
    subst e
    have hl := A.len h1
    rw [← hl, List.drop_length_add_append]
    exact h.sub h2, fun {M w cs c x y} ⟨a, b, e, h1, h2⟩ hc => by
    subst e
    have hl := A.len h1
    rw [← hl, splice_right]
    exact ⟨a, _, rfl, h1, h.set h2 hc⟩⟩
theorem Lens.via {g : δ → α} {by' : Nat} {hb : 0 < by'} {pr : α → γ} {st : α → γ → α} (pr' : δ → γ) (st' : δ → γ → δ) (h : Lens E off F pr st) (h1 : ∀ x, pr' x = pr (g x) := by intros; rfl) (h2 : ∀ x y, g (st' x y) = st (g x) y := by intros; rfl) :
    Lens (E.via g by' hb) off F pr' st' :=
  ⟨h.fit, fun {M w cs x} hr => by rw [h1]; exact h.sub hr, fun {M w cs c x y} hr hc => by
    show E.R M w (splice cs off c) (g (st' x y))
    rw [h2]
    exact h.set hr hc⟩
theorem Lens.elem {pr : α → γ} {st : α → γ → α} (h : Lens E off F pr st) {M : Mut} {w : World} {ad : Addr} {x : α} (he : Elem E M w ad x) : Elem F M w (ad.add off) (pr x) := by
  obtain ⟨cs, h1, h2⟩ := he
  refine ⟨_, h.sub h1, fun j c hj => ?_⟩
  rw [add_add']
  refine h2 _ c ?_
  rw [List.getElem?_take] at hj
  split at hj
  · rw [List.getElem?_drop] at hj; exact hj
  · cases hj
theorem Lens.fd {P : Program} {s : TypeId} {f : Nat} {pr : α → γ} {st : α → γ → α} (h : Lens E off F pr st) (hf : FD P s f off) : FDc P s f E F pr st :=
  ⟨off, hf, h.elem, fun h1 h2 => ⟨by rw [F.len h2]; exact h.fit, h.set h1 h2⟩⟩
theorem Lens.fv {P : Program} {s : TypeId} {f : Nat} {pr : α → γ} {st : α → γ → α} {Q : γ → Pub} (h : Lens E off F pr st) (hf : FV P s f off F.sz F.agg) (ha : E.agg = true) (hQ : LDc F Q) : FVc P s f E (fun x => Q (pr x)) :=
  ⟨fun {N fr M w d ty pos aft g x v a Ψ} hx hv hΨ => by
    obtain ⟨cs, h1, h2⟩ := hv
    rw [ha] at h2
    subst h2
    have hs := h.sub h1
    have hV : F.V M w (mkv F.agg ((cs.drop off).take F.sz)) (pr a) := ⟨_, hs, rfl⟩
    have hl := F.len hs
    cases hag : F.agg
    · rw [hag] at hf hV
      have h1s := F.one1 hag
      rw [h1s] at hV hl
      have hc : ∃ c, cs[off]? = some c ∧ (cs.drop off).take 1 = [c] := by
        cases hcs : cs[off]? with
        | none =>
          rw [List.getElem?_eq_none_iff] at hcs
          rw [List.drop_of_length_le hcs] at hl
          simp at hl
        | some c =>
          refine ⟨c, rfl, ?_⟩
          obtain ⟨hlt, rfl⟩ := List.getElem?_eq_some_iff.1 hcs
          rw [List.drop_eq_getElem_cons hlt]
          rfl
      obtain ⟨c, c1, c2⟩ := hc
      rw [c2] at hV
      exact op_field1 hf hx c1 (hΨ _ (hQ.out hV))
    · rw [hag] at hf hV
      exact op_fieldn hf hx (hΨ _ (hQ.out hV))⟩
structure BLs (plc : List (Nat × Nat)) (E : Enc α) (x0 : α) (idx : List Nat) (Qs : List Pub) (x : α) : Prop where
  out : ∀ {M : Mut} {w : World} {cs vs : List Value}, E.R M w cs x0 → FitL M w Qs vs → ∃ pl, PartsOk (fun i => plc[i]?) cs.length (idx.zip vs) pl ∧ E.R M w (splices cs pl) x
theorem bls_nil {plc : List (Nat × Nat)} {x : α} : BLs plc E x [] [] x := ⟨fun {M w cs vs} h hf => by
  cases vs with
  | nil => exact ⟨[], trivial, h⟩
  | cons => exact hf.elim⟩
theorem bls_cons {plc : List (Nat × Nat)} {x0 x : α} {i : Nat} {idx : List Nat} {Q : Pub} {Qs : List Pub} {y : γ} {pr : α → γ} {st : α → γ → α} (h : Lens E off F pr st) (hp : PEc Q F y) (hi : plc[i]? = some (off, F.sz)) (hr : BLs plc E (st x0 y) idx Qs x) :
    BLs plc E x0 (i :: idx) (Q :: Qs) x := ⟨fun {M w cs vs} h0 hf => by
  cases vs with
  | nil => exact hf.elim
  | cons v vs =>
    obtain ⟨c, c1, c2⟩ := hp.out hf.1
    have hcl := F.len c1
    have hfit := h.fit
    have hl := E.len h0
    obtain ⟨pl, p1, p2⟩ := hr.out (h.set h0 c1) hf.2
    refine ⟨(off, c) :: pl, ⟨by simpa [hcl] using hi, by rw [c2]; exact mkv_cells c1, by omega, ?_⟩, p2⟩
    rw [length_splice (by omega)] at p1
    exact p1⟩
theorem blc {P : Program} {t : TypeId} {plc : List (Nat × Nat)} {z : List Value} {x0 x : α} {idx : List Nat} {Qs : List Pub} (hS : SB P t plc z) (ha : E.agg = true) (hz : ∀ M w, E.R M w z x0) (h : BLs plc E x0 idx Qs x) : BLc P t idx Qs E x :=
  ⟨fun {N fr M w d ty pos aft g parts vs Ψ} hi hx hf hΨ => by
    obtain ⟨pl, p1, p2⟩ := h.out (hz M w) hf
    subst hi
    exact op_build hS hx p1 (hΨ _ ⟨_, p2, by rw [ha]; rfl⟩)⟩
end
instance : BYc eI 8 := ⟨rfl⟩
instance {α : Type} {E : Enc α} : BYc (eSl E) 24 := ⟨rfl⟩
instance {k : IntKind} : LDc (eN k) (pK k) := ⟨fun {M w v x} ⟨cs, ⟨h1, h2, h3⟩, h⟩ => by subst h1; exact ⟨h, h2, h3⟩⟩
instance {α : Type} {E : Enc α} : LDc (eSl E) (pSl E) := ⟨fun h => eSl_V.1 h⟩
instance {k : IntKind} {n : Int} : PEc (pK k n) (eN k) n := ⟨fun {M w v} ⟨h, h1, h2⟩ => ⟨[v], ⟨by rw [h], h1, h2⟩, rfl⟩⟩
instance {α : Type} {E : Enc α} {l : List α} : PEc (pSl E l) (eSl E) l := ⟨fun h => eSl_V.2 h⟩
instance {α : Type} {E : Enc α} : PEc (pv (.slice none 0 0)) (eSl E) [] := ⟨fun {M w v} h => by cases h; exact eSl_V.2 (SlOf.nil E M w)⟩
instance {α : Type} {E : Enc α} {x : α} : PEc (pV E x) E x := ⟨fun h => h⟩
def eB : Enc Bool where
  sz := 1
  by_ := 1
  agg := false
  R := fun _ _ cs b => cs = [.bool b]
  pos := by decide
  bpos := by decide
  one1 := fun _ => rfl
  len := fun h => by rw [h]; rfl
  one := fun h c hc => by rw [h] at hc; simp at hc; subst hc; rfl
  mono := fun h _ => h
instance : BYc eB 1 := ⟨rfl⟩
instance : LDc eB pB := ⟨fun {M w v x} ⟨cs, h1, h⟩ => by subst h1; exact h⟩
instance {b : Bool} : PEc (pB b) eB b := ⟨fun {M w v} h => ⟨[v], by rw [h]; rfl, rfl⟩⟩
instance : USl Tryd.prog 22 3 := ⟨uI⟩
instance : TEc Tryd.prog 3 eI := ⟨teI⟩
instance : TEc Tryd.prog 22 (eSl eI) := ⟨teSI⟩
instance : TEc Tryd.prog 4 eB := ⟨_, rfl, tdB⟩
instance : ZEc Tryd.prog 3 eI 0 := ⟨_, tdI, fun _ _ => ⟨rfl, fun _ => by unfold I64; omega, fun e => by cases e⟩⟩
instance : ZEc Tryd.prog 4 eB false := ⟨_, tdB, fun _ _ => rfl⟩
instance : ZEc Tryd.prog 22 (eSl eI) [] := ⟨_, tdSI, fun M w => ⟨_, rfl, SlOf.nil eI M w⟩⟩
instance : USl Tryd.prog 33 42 := ⟨uL⟩
instance : USl Tryd.prog 34 33 := ⟨uLL⟩
instance : TEc Tryd.prog 42 eLine := ⟨teL⟩
instance : TEc Tryd.prog 33 (eSl eLine) := ⟨teSL⟩
instance : BYc eLine 64 := ⟨rfl⟩
instance : LDc eLine (pV eLine) := ⟨fun h => h⟩
theorem lineZ (M : Mut) (w : World) : eLine.R M w [.int .i64 0, .int .i64 0, .slice none 0 0, .slice none 0 0] ⟨0, 0, [], []⟩ :=
  eLine_R.2 ⟨_, _, rfl, by unfold I64; simp, by unfold I64; simp, SlOf.nil _ _ _, SlOf.nil _ _ _⟩
instance : ZEc Tryd.prog 42 eLine ⟨0, 0, [], []⟩ := ⟨_, tdL, lineZ⟩
instance : ZEc Tryd.prog 33 (eSl eLine) [] := ⟨_, tdSL, fun M w => ⟨_, rfl, SlOf.nil eLine M w⟩⟩
theorem l0 : Lens eLine 0 eI Line.frm (fun x y => { x with frm := y }) := (((Lens.id eI).left eI).left _).via _ _
theorem l1 : Lens eLine 1 eI Line.til (fun x y => { x with til := y }) := (((Lens.id eI).right eI).left _).via _ _
theorem l2 : Lens eLine 2 (eSl eI) Line.gaps (fun x y => { x with gaps := y }) := (((Lens.id (eSl eI)).left (eSl eI)).right (eI.app eI)).via _ _
theorem l3 : Lens eLine 3 (eSl eI) Line.notes (fun x y => { x with notes := y }) := (((Lens.id (eSl eI)).right (eSl eI)).right (eI.app eI)).via _ _
instance : FDc Tryd.prog 42 0 eLine eI Line.frm (fun x y => { x with frm := y }) := l0.fd fdL0
instance : FDc Tryd.prog 42 1 eLine eI Line.til (fun x y => { x with til := y }) := l1.fd fdL1
instance : FDc Tryd.prog 42 2 eLine (eSl eI) Line.gaps (fun x y => { x with gaps := y }) := l2.fd fdL2
instance : FDc Tryd.prog 42 3 eLine (eSl eI) Line.notes (fun x y => { x with notes := y }) := l3.fd fdL3
instance : FVc Tryd.prog 42 0 eLine (fun x => pI x.frm) := l0.fv fvL0 rfl inferInstance
instance : FVc Tryd.prog 42 1 eLine (fun x => pI x.til) := l1.fv fvL1 rfl inferInstance
instance : FVc Tryd.prog 42 2 eLine (fun x => pSl eI x.gaps) := l2.fv fvL2 rfl inferInstance
instance : FVc Tryd.prog 42 3 eLine (fun x => pSl eI x.notes) := l3.fv fvL3 rfl inferInstance
def eLb : Enc (Int × Int) := eI.app eI
theorem tdLb : TD Tryd.prog 55 2 16 true [.int .i64 0, .int .i64 0] := by
  exact TD.mk' (z := .agg #[.int .i64 0, .int .i64 0]) (by kernel_rfl) Tryd.underlying55 rfl
instance : TEc Tryd.prog 55 eLb := ⟨_, rfl, tdLb⟩
instance : LDc eLb (pV eLb) := ⟨fun h => h⟩
instance : USl Tryd.prog 48 57 := ⟨uP⟩
instance : TEc Tryd.prog 57 ePg := ⟨teP⟩
instance : BYc ePg 80 := ⟨rfl⟩
instance : LDc ePg (pV ePg) := ⟨fun h => h⟩
theorem pgZ (M : Mut) (w : World) : ePg.R M w [.int .i64 0, .int .i64 0, .int .i64 0, .int .i64 0, .slice none 0 0, .slice none 0 0] ⟨0, 0, 0, 0, [], []⟩ :=
  ePg_R.2 ⟨_, _, rfl, by unfold I64; simp, SlOf.nil _ _ _, SlOf.nil _ _ _⟩
instance : ZEc Tryd.prog 57 ePg ⟨0, 0, 0, 0, [], []⟩ := ⟨_, tdP, pgZ⟩
theorem p0 : Lens ePg 0 eLb (fun p => (p.num, p.suf)) (fun x y => { x with num := y.1, suf := y.2 }) := (((Lens.id (eI.app eI)).left (eI.app eI)).left _).via _ _
theorem p1 : Lens ePg 2 eI Pg.entry (fun x y => { x with entry := y }) := ((((Lens.id eI).left eI).right (eI.app eI)).left _).via _ _
theorem p2 : Lens ePg 3 eI Pg.version (fun x y => { x with version := y }) := ((((Lens.id eI).right eI).right (eI.app eI)).left _).via _ _
theorem p3 : Lens ePg 4 (eSl eLine) Pg.body (fun x y => { x with body := y }) := (((Lens.id (eSl eLine)).left (eSl eLine)).right ((eI.app eI).app (eI.app eI))).via _ _
theorem p4 : Lens ePg 5 (eSl eLine) Pg.notes (fun x y => { x with notes := y }) := (((Lens.id (eSl eLine)).right (eSl eLine)).right ((eI.app eI).app (eI.app eI))).via _ _
instance : FDc Tryd.prog 57 0 ePg eLb (fun p => (p.num, p.suf)) (fun x y => { x with num := y.1, suf := y.2 }) := p0.fd fdP0
instance : FDc Tryd.prog 57 1 ePg eI Pg.entry (fun x y => { x with entry := y }) := p1.fd fdP1
instance : FDc Tryd.prog 57 2 ePg eI Pg.version (fun x y => { x with version := y }) := p2.fd fdP2
instance : FDc Tryd.prog 57 3 ePg (eSl eLine) Pg.body (fun x y => { x with body := y }) := p3.fd fdP3
instance : FDc Tryd.prog 57 4 ePg (eSl eLine) Pg.notes (fun x y => { x with notes := y }) := p4.fd fdP4
instance : FVc Tryd.prog 57 3 ePg (fun x => pSl eLine x.body) := p3.fv fvP3 rfl inferInstance
instance : FVc Tryd.prog 57 4 ePg (fun x => pSl eLine x.notes) := p4.fv fvP4 rfl inferInstance
end Go.Proofs.YtocoinkhbjlbhaaDoor
end

section
namespace Go.Proofs.YtocoinkhbjlbhaaDoor
open Go Go.RowKit
instance : BYc eStr 16 := ⟨rfl⟩
instance : LDc eStr pS := ⟨fun h => eStr_V.1 h⟩
instance {s : ByteArray} : PEc (pS s) eStr s := ⟨fun h => eStr_V.2 h⟩
structure Wd where
  s : ByteArray
  key : ByteArray
  table : Int
  note : Int
def eWord : Enc Wd := ((eStr.app eStr).app (eI.app eI)).via (fun x => ((x.s, x.key), (x.table, x.note))) 48 (by decide)
structure Tx where
  paras : List (List Wd)
  notes : List (List Wd)
def eText : Enc Tx := ((eSl (eSl eWord)).app (eSl (eSl eWord))).via (fun t => (t.paras, t.notes)) 48 (by decide)
theorem tdStr : TD Tryd.prog 9 1 16 false [.string ⟨#[]⟩] := TD.mk' (z := .string ⟨#[]⟩) (d := .string) (by kernel_rfl) (by kernel_rfl) rfl
theorem tdW : TD Tryd.prog 29 4 48 true [.string ⟨#[]⟩, .string ⟨#[]⟩, .int .i64 0, .int .i64 0] := by
  exact TD.mk' (z := .agg #[.string ⟨#[]⟩, .string ⟨#[]⟩, .int .i64 0, .int .i64 0]) (by kernel_rfl) Tryd.underlying29 rfl
theorem tdSW : TD Tryd.prog 27 1 24 false [.slice none 0 0] := TD.mk' (z := .slice none 0 0) (d := .slice 29) (by kernel_rfl) (by kernel_rfl) rfl
theorem tdSSW : TD Tryd.prog 23 1 24 false [.slice none 0 0] := TD.mk' (z := .slice none 0 0) (d := .slice 27) (by kernel_rfl) (by kernel_rfl) rfl
theorem tdT : TD Tryd.prog 25 2 48 true [.slice none 0 0, .slice none 0 0] := by
  exact TD.mk' (z := .agg #[.slice none 0 0, .slice none 0 0]) (by kernel_rfl) Tryd.underlying25 rfl
instance : TEc Tryd.prog 9 eStr := ⟨_, rfl, tdStr⟩
instance : TEc Tryd.prog 29 eWord := ⟨_, rfl, tdW⟩
instance : TEc Tryd.prog 27 (eSl eWord) := ⟨_, rfl, tdSW⟩
instance : TEc Tryd.prog 23 (eSl (eSl eWord)) := ⟨_, rfl, tdSSW⟩
instance : TEc Tryd.prog 25 eText := ⟨_, rfl, tdT⟩
instance : USl Tryd.prog 27 29 := ⟨Tryd.underlying27⟩
instance : USl Tryd.prog 23 27 := ⟨Tryd.underlying23⟩
instance : BYc eWord 48 := ⟨rfl⟩
instance : LDc eWord (pV eWord) := ⟨fun h => h⟩
instance : LDc eText (pV eText) := ⟨fun h => h⟩
theorem w0l : Lens eWord 0 eStr Wd.s (fun x y => { x with s := y }) := (((Lens.id eStr).left eStr).left _).via _ _
theorem w1l : Lens eWord 1 eStr Wd.key (fun x y => { x with key := y }) := (((Lens.id eStr).right eStr).left _).via _ _
theorem w2l : Lens eWord 2 eI Wd.table (fun x y => { x with table := y }) := (((Lens.id eI).left eI).right (eStr.app eStr)).via _ _
theorem w3l : Lens eWord 3 eI Wd.note (fun x y => { x with note := y }) := (((Lens.id eI).right eI).right (eStr.app eStr)).via _ _
theorem fdW0 : FD Tryd.prog 29 0 0 := FD.mk' Tryd.underlying29 (by kernel_rfl)
theorem fdW1 : FD Tryd.prog 29 1 1 := FD.mk' Tryd.underlying29 (by kernel_rfl)
theorem fdW2 : FD Tryd.prog 29 2 2 := FD.mk' Tryd.underlying29 (by kernel_rfl)
theorem fdW3 : FD Tryd.prog 29 3 3 := FD.mk' Tryd.underlying29 (by kernel_rfl)
theorem fvW0 : FV Tryd.prog 29 0 0 1 false := FV.mk' Tryd.underlying29 (by kernel_rfl)
theorem fvW1 : FV Tryd.prog 29 1 1 1 false := FV.mk' Tryd.underlying29 (by kernel_rfl)
theorem fvW2 : FV Tryd.prog 29 2 2 1 false := FV.mk' Tryd.underlying29 (by kernel_rfl)
theorem fvW3 : FV Tryd.prog 29 3 3 1 false := FV.mk' Tryd.underlying29 (by kernel_rfl)
instance : FDc Tryd.prog 29 0 eWord eStr Wd.s (fun x y => { x with s := y }) := w0l.fd fdW0
instance : FDc Tryd.prog 29 1 eWord eStr Wd.key (fun x y => { x with key := y }) := w1l.fd fdW1
instance : FDc Tryd.prog 29 2 eWord eI Wd.table (fun x y => { x with table := y }) := w2l.fd fdW2
instance : FDc Tryd.prog 29 3 eWord eI Wd.note (fun x y => { x with note := y }) := w3l.fd fdW3
instance : FVc Tryd.prog 29 0 eWord (fun x => pS x.s) := w0l.fv fvW0 rfl inferInstance
instance : FVc Tryd.prog 29 1 eWord (fun x => pS x.key) := w1l.fv fvW1 rfl inferInstance
instance : FVc Tryd.prog 29 2 eWord (fun x => pI x.table) := w2l.fv fvW2 rfl inferInstance
instance : FVc Tryd.prog 29 3 eWord (fun x => pI x.note) := w3l.fv fvW3 rfl inferInstance
theorem x0l : Lens eText 0 (eSl (eSl eWord)) Tx.paras (fun x y => { x with paras := y }) := ((Lens.id (eSl (eSl eWord))).left _).via _ _
theorem x1l : Lens eText 1 (eSl (eSl eWord)) Tx.notes (fun x y => { x with notes := y }) := ((Lens.id (eSl (eSl eWord))).right (eSl (eSl eWord))).via _ _
theorem fdT0 : FD Tryd.prog 25 0 0 := FD.mk' Tryd.underlying25 (by kernel_rfl)
theorem fdT1 : FD Tryd.prog 25 1 1 := FD.mk' Tryd.underlying25 (by kernel_rfl)
theorem fvT0 : FV Tryd.prog 25 0 0 1 false := FV.mk' Tryd.underlying25 (by kernel_rfl)
theorem fvT1 : FV Tryd.prog 25 1 1 1 false := FV.mk' Tryd.underlying25 (by kernel_rfl)
instance : FDc Tryd.prog 25 0 eText (eSl (eSl eWord)) Tx.paras (fun x y => { x with paras := y }) := x0l.fd fdT0
instance : FDc Tryd.prog 25 1 eText (eSl (eSl eWord)) Tx.notes (fun x y => { x with notes := y }) := x1l.fd fdT1
instance : FVc Tryd.prog 25 0 eText (fun x => pSl (eSl eWord) x.paras) := x0l.fv fvT0 rfl inferInstance
instance : FVc Tryd.prog 25 1 eText (fun x => pSl (eSl eWord) x.notes) := x1l.fv fvT1 rfl inferInstance
end Go.Proofs.YtocoinkhbjlbhaaDoor
end

section
namespace Go.Proofs.YtocoinkhbjlbhaaDoor
open Go Go.RowKit
theorem strEq (a b : ByteArray) : (a.toList == b.toList) = decide (a = b) := by
  rw [ByteArray.toList_eq, ByteArray.toList_eq, Bool.eq_iff_iff]
  simp only [beq_iff_eq, decide_eq_true_eq]
  exact ⟨fun h => ByteArray.ext (Array.ext' h), fun h => by rw [h]⟩
class STc (P : Program) (t : TypeId) : Prop where
  out : P.underlying t = some .string
class IKc (P : Program) (t : TypeId) (k : outParam IntKind) : Prop where
  out : P.underlying t = some (.int k)
section
variable {P : Program} {N : Nat} {G : TF} {d : Option Tmp} {ty : TypeId} {pos : String} {aft : Array Edge} {g : Option (Nat × Bool)}
theorem t_lenStr {x : Operand} {s : ByteArray} {t : TypeId} (hx : topP G x = some (pS s) := by rfl) (ht : STc P t := by infer_instance) :
    TOp P N ⟨d, .call ⟨.builtin .len, #[x], #[t]⟩, ty, pos, aft, g⟩ G [] (.pu (pI s.size)) := .pure [x] (by simp [Op.operands, Call.operands]) fun {B M w fr} hf => by
  obtain ⟨_, h0, rfl, h1⟩ := hf.op hx (by simp)
  exact OP.val (v := .int .i64 s.size) (fun a ha => by
    simp [execOp, resolve, invoke, builtin, Builtin.len_, ha.eval h0, run_underlying ht.out, goInt]) ⟨rfl, rfl, rng64 (by omega)⟩
theorem t_idxStr {x i : Operand} {s : ByteArray} {t : TypeId} {k : IntKind} {n : Nat} (hx : topP G x = some (pS s) := by rfl) (hi : topP G i = some (pK k (n : Int)) := by rfl) (ht : STc P t := by infer_instance) (hn : n < s.size := by omega) :
    TOp P N ⟨d, .index t x i, ty, pos, aft, g⟩ G [] (.pu (pK .u8 (s[n]'hn).toNat)) := .pure [x, i] (by simp [Op.operands]) fun {B M w fr} hf => by
  obtain ⟨_, h0, rfl, h1⟩ := hf.op hx (by simp)
  obtain ⟨_, h2, rfl, _⟩ := hf.op hi (by simp)
  have hr := run_index_string (P := P) (w := w) t s k n ht.out
  have hb := (s[n]'hn).toNat_lt
  exact OP.val (v := .int .u8 (s[n]'hn).toNat) (fun a ha => by
    simp [execOp, ha.eval h0, ha.eval h2, hr, hn]) ⟨rfl, rfl, (fun e => by cases e), fun _ => by omega⟩
theorem t_neqStr {x y : Operand} {s r : ByteArray} {t u : TypeId} (hx : topP G x = some (pS s) := by rfl) (hy : topP G y = some (pS r) := by rfl) :
    TOp P N ⟨d, .binOp .neq t x y u, ty, pos, aft, g⟩ G [] (.pu (pB (decide (s ≠ r)))) := .pure [x, y] (by simp [Op.operands]) fun {B M w fr} hf => by
  obtain ⟨_, h0, rfl, h1⟩ := hf.op hx (by simp)
  obtain ⟨_, h2, rfl, _⟩ := hf.op hy (by simp)
  exact OP.val (v := .bool (decide (s ≠ r))) (fun a ha => by
    simp [execOp, eqGuard, ha.eval h0, ha.eval h2, binOp_string_neq, strEq]) ⟨rfl, rfl⟩
theorem rngWrap (k : IntKind) (n : Int) : Rng k (k.wrap n) := ⟨fun e => by subst e; rw [IntKind.wrap_i64]; unfold I64; omega, fun e => by subst e; rw [IntKind.wrap_u8]; omega⟩
section ints
variable {x y : Operand} {m n : Int} {t u : TypeId} {k : IntKind}
theorem t_addK (hx : topP G x = some (pK k m) := by rfl) (hy : topP G y = some (pK k n) := by rfl) : TOp P N ⟨d, .binOp .add t x y u, ty, pos, aft, g⟩ G [] (.pu (pK k (k.wrap (m + n)))) := .pure [x, y] (by simp [Op.operands]) fun hf => by
  obtain ⟨_, h0, rfl, _⟩ := hf.op hx (by simp)
  obtain ⟨_, h1, rfl, _⟩ := hf.op hy (by simp)
  exact OP.val (v := .int k (k.wrap (m + n))) (fun a ha => by simp [execOp, ha.eval h0, ha.eval h1, eqGuard_at_int, binOp_add, Op.intArith]) ⟨rfl, rfl, rngWrap _ _⟩
theorem t_subK (hx : topP G x = some (pK k m) := by rfl) (hy : topP G y = some (pK k n) := by rfl) : TOp P N ⟨d, .binOp .sub t x y u, ty, pos, aft, g⟩ G [] (.pu (pK k (k.wrap (m - n)))) := .pure [x, y] (by simp [Op.operands]) fun hf => by
  obtain ⟨_, h0, rfl, _⟩ := hf.op hx (by simp)
  obtain ⟨_, h1, rfl, _⟩ := hf.op hy (by simp)
  exact OP.val (v := .int k (k.wrap (m - n))) (fun a ha => by simp [execOp, ha.eval h0, ha.eval h1, eqGuard_at_int, binOp_sub, Op.intArith]) ⟨rfl, rfl, rngWrap _ _⟩
theorem t_mulK (hx : topP G x = some (pK k m) := by rfl) (hy : topP G y = some (pK k n) := by rfl) : TOp P N ⟨d, .binOp .mul t x y u, ty, pos, aft, g⟩ G [] (.pu (pK k (k.wrap (m * n)))) := .pure [x, y] (by simp [Op.operands]) fun hf => by
  obtain ⟨_, h0, rfl, _⟩ := hf.op hx (by simp)
  obtain ⟨_, h1, rfl, _⟩ := hf.op hy (by simp)
  exact OP.val (v := .int k (k.wrap (m * n))) (fun a ha => by simp [execOp, ha.eval h0, ha.eval h1, eqGuard_at_int, binOp_mul, Op.intArith]) ⟨rfl, rfl, rngWrap _ _⟩
def orK (k : IntKind) (m n : Int) : Int := k.wrap ((BitVec.ofInt k.bits m ||| BitVec.ofInt k.bits n).toNat : Int)
theorem t_orK (hx : topP G x = some (pK k m) := by rfl) (hy : topP G y = some (pK k n) := by rfl) : TOp P N ⟨d, .binOp .or t x y u, ty, pos, aft, g⟩ G [] (.pu (pK k (orK k m n))) := .pure [x, y] (by simp [Op.operands]) fun hf => by
  obtain ⟨_, h0, rfl, _⟩ := hf.op hx (by simp)
  obtain ⟨_, h1, rfl, _⟩ := hf.op hy (by simp)
  exact OP.val (v := .int k (orK k m n)) (fun a ha => by simp [execOp, ha.eval h0, ha.eval h1, eqGuard_at_int, binOp, Op.intBits, orK]) ⟨rfl, rfl, rngWrap _ _⟩
theorem t_shrU32 {s : Nat} {k2 : IntKind} (hx : topP G x = some (pK .u32 m) := by rfl) (hy : topP G y = some (pK k2 (s : Int)) := by rfl) (hs : s ≤ 32 := by decide) : TOp P N ⟨d, .binOp .shr t x y u, ty, pos, aft, g⟩ G [] (.pu (pK .u32 (m / 2 ^ s))) := .pure [x, y] (by simp [Op.operands]) fun hf => by
  obtain ⟨_, h0, rfl, _⟩ := hf.op hx (by simp)
  obtain ⟨_, h1, rfl, _⟩ := hf.op hy (by simp)
  have hb : IntKind.u32.bits = 32 := rfl
  have hn : ¬ ((s : Int) < 0) := by omega
  exact OP.val (v := .int .u32 (m / 2 ^ s)) (fun a ha => by
    simp [execOp, ha.eval h0, ha.eval h1, eqGuard, binOp, Op.shift, hn, hb, Nat.min_eq_left hs]) ⟨rfl, rfl, (fun e => by cases e), fun e => by cases e⟩
theorem t_cvK {k2 : IntKind} (hx : topP G x = some (pK k2 m) := by rfl) {k0 : IntKind} (h1 : IKc P t k0 := by infer_instance) (h2 : IKc P u k := by infer_instance) : TOp P N ⟨d, .convert t u x, ty, pos, aft, g⟩ G [] (.pu (pK k (k.wrap m))) := .pure [x] (by simp [Op.operands]) fun {B M w fr} hf => by
  obtain ⟨_, h0, rfl, _⟩ := hf.op hx (by simp)
  exact OP.val (v := .int k (k.wrap m)) (fun a ha => by simp [execOp, ha.eval h0, convert, run_underlying h1.out, run_underlying h2.out, Conv.intToInt]) ⟨rfl, rfl, rngWrap _ _⟩
theorem t_cvS {k2 : IntKind} {r : Int} (hr : k.wrap m = r) (hx : topP G x = some (pK k2 m) := by rfl) {k0 : IntKind} (h1 : IKc P t k0 := by infer_instance) (h2 : IKc P u k := by infer_instance) : TOp P N ⟨d, .convert t u x, ty, pos, aft, g⟩ G [] (.pu (pK k r)) := by subst hr; exact t_cvK hx h1 h2
theorem t_cvB (hx : topP G x = some (pK .u8 m) := by rfl) {k0 : IntKind} (h1 : IKc P t k0 := by infer_instance) (h2 : IKc P u .i64 := by infer_instance) : TOp P N ⟨d, .convert t u x, ty, pos, aft, g⟩ G [] (.pu (pI m)) := .pure [x] (by simp [Op.operands]) fun {B M w fr} hf => by
  obtain ⟨_, h0, rfl, hr⟩ := hf.op hx (by simp)
  have h3 := hr.2 rfl
  have e : IntKind.i64.wrap m = m := IntWalk.i64_in _ (by omega)
  exact OP.val (v := .int .i64 m) (fun a ha => by simp [execOp, ha.eval h0, convert, run_underlying h1.out, run_underlying h2.out, Conv.intToInt, e]) ⟨rfl, rfl, rng64 (by omega)⟩
theorem t_subB (hx : topP G x = some (pK .u8 m) := by rfl) (hy : topP G y = some (pK .u8 n) := by rfl) (hr : 0 ≤ m - n ∧ m - n ≤ 255 := by omega) : TOp P N ⟨d, .binOp .sub t x y u, ty, pos, aft, g⟩ G [] (.pu (pK .u8 (m - n))) := by
  have := t_subK (P := P) (N := N) (d := d) (ty := ty) (pos := pos) (aft := aft) (g := g) (t := t) (u := u) hx hy
  rwa [IntWalk.u8_in _ hr] at this
theorem t_idxT {i : Operand} {ki : IntKind} {n : Int} {t e : TypeId} (hi : topP G i = some (pK ki n) := by rfl) (ht : P.underlying t = some (.array 94 e) := by rfl) {z : List Value} {by' : Nat} (hE : TD P e 1 by' false z) (h0 : 0 ≤ n := by omega) (hn : n.toNat < tbl.length) :
    TOp P N ⟨d, .indexAddr t (.global 0) i, ty, pos, aft, g⟩ G [] (.pu (pPtr (eN .u8) tbl[n.toNat])) := .pure [i] (by simp [Op.operands]) fun {B M w fr} hf => by
  obtain ⟨_, k2, rfl, _⟩ := hf.op hi (by simp)
  have hlt : tbl.length = 94 := rfl
  have hel : P.elem t = e := by simp [Program.elem, ht]
  have hal : P.arrayLen t = 94 := by simp [Program.arrayLen, ht]
  have hr := run_indexAt_array (P := P) (w := w) t ⟨0, 0, none⟩ ki n (by rw [hel, hal]; exact ht)
  rw [hel, hal, if_pos (by omega)] at hr
  have hb : 0 ≤ tbl[n.toNat] ∧ tbl[n.toNat] ≤ 255 := by
    have hall : ∀ x ∈ tbl, 0 ≤ x ∧ x ≤ 255 := by decide
    exact hall _ (List.getElem_mem _)
  refine OP.val (v := .pointer (some ⟨0, n.toNat, none⟩)) (w' := w) (fun a ha => ?_) ⟨rfl, _, rfl, [.int .u8 tbl[n.toNat]], ⟨rfl, (fun e => by cases e), fun _ => hb⟩, fun j c hj => ?_⟩
  · have e0 : a.eval (.global 0) = .pointer (some ⟨0, 0, none⟩) := rfl
    simp only [execOp, ha.eval k2, e0]
    simp [hr, hE.run_sizeOf (w := w), Addr.add_lit]
  · cases j with
    | zero =>
      simp at hj
      subst hj
      rw [Addr.add_lit]
      exact hf.lay.cell n.toNat hn
    | succ j => simp at hj
end ints
end
instance : STc Tryd.prog 9 := ⟨Tryd.underlying9⟩
instance : IKc Tryd.prog 3 .i64 := ⟨Tryd.underlying3⟩
instance : IKc Tryd.prog 5 .u8 := ⟨Tryd.underlying5⟩
instance : IKc Tryd.prog 84 .u32 := ⟨Tryd.underlying84⟩
theorem tdU8 : TD Tryd.prog 5 1 1 false [.int .u8 0] := TD.mk' (z := .int .u8 0) (d := .int .u8) (by kernel_rfl) (by kernel_rfl) rfl
instance : TEc Tryd.prog 5 (eN .u8) := ⟨_, rfl, tdU8⟩
end Go.Proofs.YtocoinkhbjlbhaaDoor
end

section
namespace Go.Proofs.YtocoinkhbjlbhaaDoor
open Go Go.RowKit
def aro (n m : Int) : Int := (if n < 0 then -(n + 1) else n) % m
theorem aro_bd (n m : Int) (h : 1 ≤ m) : 0 ≤ aro n m ∧ aro n m < m := by
  unfold aro
  exact ⟨Int.emod_nonneg _ (by omega), Int.emod_lt_of_pos _ (by omega)⟩
theorem around03 (n m : Int) (w : World) (hn : I64 n) (hm : 1 ≤ m) : CallsV Tryd.prog 19 [.int .i64 n, .int .i64 m] w (fun v w' => v = .int .i64 (aro n m) ∧ w' = w) := by
  unfold I64 at hn
  refine callsV_of_run Tryd.func19 rfl Tryd.ntmps19 (Nat.le_of_ble_eq_true rfl) ?_
  (repeat (first | refine run_seq ?_ | refine run_region_l ?_ | refine rl_nil ?_ | refine rl_step (by decide) (op_move rfl ?_) | refine rl_step (by decide) (op_assign rfl ?_) | refine rl_step (by decide) (op_lss rfl rfl ?_) | fail))
  refine run_if rfl (fun h => ?_) (fun h => ?_)
  · (repeat (first | refine run_seq ?_ | refine run_region_l ?_ | refine rl_nil ?_ | refine rl_step (by decide) (op_move rfl ?_) | refine rl_step (by decide) (op_assign rfl ?_) | refine rl_step (by decide) (op_add rfl rfl (by omega) ?_) | refine rl_step (by decide) (op_neg rfl (by omega) ?_)))
    refine rl_step (by decide) (op_rem rfl rfl (by omega) ?_)
    (repeat (first | refine rl_nil ?_ | refine rl_step (by decide) (op_assign rfl ?_) | fail))
    refine run_ret1 Tryd.func19 rfl rfl ?_
    refine ⟨?_, rfl⟩
    rw [aro, if_pos h, Int.tmod_eq_emod_of_nonneg (by omega)]
  · (repeat (first | refine run_seq ?_ | refine run_region_l ?_ | refine rl_step (by decide) (op_move rfl ?_) | refine run_skip ?_ | fail))
    refine rl_step (by decide) (op_rem rfl rfl (by omega) ?_)
    (repeat (first | refine rl_nil ?_ | refine rl_step (by decide) (op_assign rfl ?_) | fail))
    refine run_ret1 Tryd.func19 rfl rfl ?_
    refine ⟨?_, rfl⟩
    rw [aro, if_neg h, Int.tmod_eq_emod_of_nonneg (by omega)]
theorem around01 (n m : Int) (w : World) (hn : I64 n) (hm : 1 ≤ m) : CallsV Tryd.prog 9 [.int .i64 n, .int .i64 m] w (fun v w' => v = .int .i64 (aro n m) ∧ w' = w) := by
  unfold I64 at hn
  refine callsV_of_run Tryd.func9 rfl Tryd.ntmps9 (Nat.le_of_ble_eq_true rfl) ?_
  (repeat (first | refine run_seq ?_ | refine run_region_l ?_ | refine rl_nil ?_ | refine rl_step (by decide) (op_move rfl ?_) | refine rl_step (by decide) (op_assign rfl ?_) | refine rl_step (by decide) (op_lss rfl rfl ?_) | fail))
  refine run_if rfl (fun h => ?_) (fun h => ?_)
  · (repeat (first | refine run_seq ?_ | refine run_region_l ?_ | refine rl_nil ?_ | refine rl_step (by decide) (op_move rfl ?_) | refine rl_step (by decide) (op_assign rfl ?_) | refine rl_step (by decide) (op_add rfl rfl (by omega) ?_) | refine rl_step (by decide) (op_neg rfl (by omega) ?_)))
    refine rl_step (by decide) (op_rem rfl rfl (by omega) ?_)
    (repeat (first | refine rl_nil ?_ | refine rl_step (by decide) (op_assign rfl ?_) | fail))
    refine run_ret1 Tryd.func9 rfl rfl ?_
    refine ⟨?_, rfl⟩
    rw [aro, if_pos h, Int.tmod_eq_emod_of_nonneg (by omega)]
  · (repeat (first | refine run_seq ?_ | refine run_region_l ?_ | refine rl_step (by decide) (op_move rfl ?_) | refine run_skip ?_ | fail))
    refine rl_step (by decide) (op_rem rfl rfl (by omega) ?_)
    (repeat (first | refine rl_nil ?_ | refine rl_step (by decide) (op_assign rfl ?_) | fail))
    refine run_ret1 Tryd.func9 rfl rfl ?_
    refine ⟨?_, rfl⟩
    rw [aro, if_neg h, Int.tmod_eq_emod_of_nonneg (by omega)]
theorem height_c (n : Int) (w : World) (hn : I64 n) : CallsV Tryd.prog 21 [.int .i64 n] w (fun v w' => v = .int .i64 (4 + aro n 97) ∧ w' = w) := by
  have hb := aro_bd n 97 (by omega)
  refine callsV_of_run Tryd.func21 rfl Tryd.ntmps21 (Nat.le_of_ble_eq_true rfl) ?_
  (repeat (first | refine run_seq ?_ | refine run_region_l ?_ | refine rl_nil ?_ | refine rl_step (by decide) (op_move rfl ?_) | refine rl_step (by decide) (op_assign rfl ?_) | fail))
  refine rl_step (by decide) (op_call ent19 rfl (around03 _ _ _ hn (by omega)) ?_)
  rintro v w' ⟨rfl, rfl⟩
  (repeat (first | refine rl_nil ?_ | refine rl_step (by decide) (op_assign rfl ?_) | refine rl_step (by decide) (op_add rfl rfl (by omega) ?_) | fail))
  refine run_ret1 Tryd.func21 rfl rfl ?_
  exact ⟨rfl, rfl⟩
end Go.Proofs.YtocoinkhbjlbhaaDoor
end

section
namespace Go.Proofs.YtocoinkhbjlbhaaDoor
def slk (m : Int) (l : List Int) : Int := m + 6 - (l.map (· + 6)).sum
theorem slk_cons (m x : Int) (l : List Int) : slk m (x :: l) = slk (m - (x + 6)) l := by
  unfold slk
  rw [List.map_cons, List.sum_cons]
  omega
theorem slk_nil (m : Int) : slk m [] = m + 6 := by simp [slk]
theorem slk_snoc (m x : Int) (l : List Int) : slk m (l ++ [x]) = slk m l - (x + 6) := by
  unfold slk
  rw [List.map_append, List.sum_append]
  simp
  omega
def okW (w : List Int) : Bool := !(w.any fun x => decide (x < 1) || decide (480 < x))
theorem okW_mem {w : List Int} (h : okW w = true) : ∀ x ∈ w, 1 ≤ x ∧ x ≤ 480 := fun x hx => by
  unfold okW at h
  rw [Bool.not_eq_true', List.any_eq_false] at h
  have := h x hx
  simp at this
  omega
theorem okW_of {w : List Int} (h : ∀ x ∈ w, 1 ≤ x ∧ x ≤ 480) : okW w = true := by
  unfold okW
  rw [Bool.not_eq_true', List.any_eq_false]
  intro x hx
  have := h x hx
  simp
  omega
def chk26 (w : List Int) (m : Int) : Int := if 500 < (w.length : Int) then 2 else if m < 500 ∨ 2000 < m then 5 else if okW w then 0 else 5
theorem chk26_ok {w : List Int} {m : Int} (h : chk26 w m = 0) : w.length ≤ 500 ∧ 500 ≤ m ∧ m ≤ 2000 ∧ ∀ x ∈ w, 1 ≤ x ∧ x ≤ 480 := by
  unfold chk26 at h
  split at h
  · cases h
  · split at h
    · cases h
    · split at h
      · rename_i h1 h2 h3
        exact ⟨by omega, by omega, by omega, okW_mem h3⟩
      · cases h
def ordE (n : Int) : Int → List Int → Bool
  | last, [] => decide (last = n)
  | last, e :: r => decide (last < e) && ordE n e r
def seg (w : List Int) (a b : Int) : List Int := (w.drop a.toNat).take (b.toNat - a.toNat)
def costG (w : List Int) (m : Int) : Int → List Int → Option Int
  | _, [] => some 0
  | a, e :: r => if slk m (seg w a e) < 0 then none else if r = [] then some 0 else (costG w m e r).map fun c => slk m (seg w a e) * slk m (seg w a e) + c
def inn (m : Int) : List Int → List (Int × Int) → Int → Int → Int → Int → Int × Int
  | x :: r, t :: T, j, s, c, e =>
    if s - (x + 6) < 0 then (c, e)
    else if r = [] then (0, j)
    else if c < 0 ∨ (s - (x + 6)) * (s - (x + 6)) + t.1 ≤ c then inn m r T (j + 1) (s - (x + 6)) ((s - (x + 6)) * (s - (x + 6)) + t.1) j
    else inn m r T (j + 1) (s - (x + 6)) c e
  | _, _, _, _, c, e => (c, e)
def dpl (m : Int) : List Int → Int → List (Int × Int)
  | [], _ => [(0, 0)]
  | x :: r, i => inn m (x :: r) (dpl m r (i + 1)) (i + 1) (m + 6) (-1) 0 :: dpl m r (i + 1)
theorem dpl_len (m : Int) : ∀ (w : List Int) (i : Int), (dpl m w i).length = w.length + 1
  | [], _ => rfl
  | x :: r, i => by rw [dpl, List.length_cons, dpl_len m r (i + 1), List.length_cons]
theorem dpl_drop (m : Int) : ∀ (w : List Int) (i : Int) (k : Nat), k ≤ w.length → (dpl m w i).drop k = dpl m (w.drop k) (i + k)
  | w, i, 0, _ => by simp
  | [], i, k + 1, h => by simp at h
  | x :: r, i, k + 1, h => by
    rw [dpl, List.drop_succ_cons, List.drop_succ_cons, dpl_drop m r (i + 1) k (by simpa using h)]
    congr 1
    omega
def walkE (D : List (Int × Int)) (n : Int) : Nat → Int → List Int
  | 0, _ => []
  | f + 1, i => if i < n then ((D[i.toNat]?).getD (0, 0)).2 :: walkE D n f ((D[i.toNat]?).getD (0, 0)).2 else []
def endsM (w : List Int) (m : Int) : List Int := walkE (dpl m w 0) w.length (w.length + 1) 0
structure Best (m : Int) (u : List Int) (T : List (Int × Int)) (i : Int) (p : Int × Int) : Prop where
  lo : i < p.2
  hi : p.2 ≤ i + u.length
  fit : 0 ≤ slk m (u.take (p.2 - i).toNat)
  eq : p.1 = if p.2 = i + u.length then 0 else slk m (u.take (p.2 - i).toNat) * slk m (u.take (p.2 - i).toNat) + ((T[(p.2 - i).toNat - 1]?).getD (0, 0)).1
  le : ∀ k : Nat, 0 < k → k ≤ u.length → 0 ≤ slk m (u.take k) → p.1 ≤ (if k = u.length then 0 else slk m (u.take k) * slk m (u.take k) + ((T[k - 1]?).getD (0, 0)).1) ∧
    ((if k = u.length then 0 else slk m (u.take k) * slk m (u.take k) + ((T[k - 1]?).getD (0, 0)).1) = p.1 → i + k ≤ p.2)
end Go.Proofs.YtocoinkhbjlbhaaDoor
end

section
namespace Go.Proofs.YtocoinkhbjlbhaaDoor
theorem slk_take_succ (m : Int) (u : List Int) (k : Nat) (hk : k < u.length) : slk m (u.take (k + 1)) = slk m (u.take k) - (u[k] + 6) := by
  rw [List.take_succ_eq_append_getElem hk, slk_snoc]
theorem slk_anti (m : Int) {u : List Int} (hu : ∀ x ∈ u, 1 ≤ x ∧ x ≤ 480) (k : Nat) : ∀ d, k + d ≤ u.length → slk m (u.take (k + d)) ≤ slk m (u.take k)
  | 0, _ => Int.le_refl _
  | d + 1, h => by
    have h1 := slk_anti m hu k d (by omega)
    have h2 := slk_take_succ m u (k + d) (by omega)
    have h3 := hu _ (List.getElem_mem (show k + d < u.length by omega))
    rw [← Nat.add_assoc]
    omega
def cand (m : Int) (u : List Int) (T : List (Int × Int)) (k : Nat) : Int :=
  if k = u.length then 0 else slk m (u.take k) * slk m (u.take k) + ((T[k - 1]?).getD (0, 0)).1
structure Part (m : Int) (u : List Int) (T : List (Int × Int)) (i : Int) (k : Nat) (c e : Int) : Prop where
  lo : i < e
  hi : e ≤ i + k
  fit : 0 ≤ slk m (u.take (e - i).toNat)
  eq : c = slk m (u.take (e - i).toNat) * slk m (u.take (e - i).toNat) + ((T[(e - i).toNat - 1]?).getD (0, 0)).1
  le : ∀ j : Nat, 0 < j → j ≤ k → c ≤ cand m u T j ∧ (cand m u T j = c → i + j ≤ e)
theorem sq_nonneg (a : Int) : 0 ≤ a * a := by
  rcases Int.le_total 0 a with h | h
  · exact Int.mul_nonneg h h
  · have := Int.mul_nonneg (show 0 ≤ -a by omega) (show 0 ≤ -a by omega)
    rwa [Int.neg_mul_neg] at this
theorem inn_inv (m : Int) (hm : 500 ≤ m) {u : List Int} (hu : ∀ x ∈ u, 1 ≤ x ∧ x ≤ 480) {T : List (Int × Int)} (hT : T.length = u.length) (hT0 : ∀ t ∈ T, 0 ≤ t.1) (i : Int) : ∀ (ws : List Int) (k : Nat) (s c e : Int), ws = u.drop k → ws ≠ [] →
    s = slk m (u.take k) → 0 ≤ s → (k = 0 ∧ c < 0 ∨ 0 < k ∧ 0 ≤ c ∧ Part m u T i k c e) → Best m u T i (inn m ws (T.drop k) (i + k + 1) s c e)
  | [], _, _, _, _, _, hne, _, _, _ => absurd rfl hne
  | x :: r, k, s, c, e, hws, _, hs, hs0, hP => by
    have hk : k < u.length := by
      rcases Nat.lt_or_ge k u.length with h | h
      · exact h
      · rw [List.drop_of_length_le h] at hws; cases hws
    have hx : x = u[k] ∧ r = u.drop (k + 1) := by
      rw [List.drop_eq_getElem_cons hk] at hws
      exact List.cons.inj hws
    obtain ⟨rfl, hr⟩ := hx
    have hTk : T.drop k = T[k] :: T.drop (k + 1) := List.drop_eq_getElem_cons (by omega)
    have hs' := slk_take_succ m u k hk
    have hxr := hu _ (List.getElem_mem hk)
    have hTn := hT0 _ (List.getElem_mem (show k < T.length by omega))
    have hTg : (T[k + 1 - 1]?).getD (0, 0) = T[k] := by simp [show k < T.length by omega]
    rw [hTk, inn]
    split
    · rename_i hneg
      rcases hP with ⟨rfl, _⟩ | ⟨hk0, hc0, hP⟩
      · rw [List.take_zero, slk_nil] at hs
        omega
      · have hP1 := hP.lo
        have hP2 := hP.hi
        refine ⟨hP.lo, by show e ≤ _; omega, hP.fit, by
          show c = _
          rw [if_neg (by show ¬ e = _; omega)]
          exact hP.eq, fun j h1 h2 h3 => ?_⟩
        rcases Nat.lt_or_ge k j with hj | hj
        · have := slk_anti m hu (k + 1) (j - (k + 1)) (by omega)
          rw [show k + 1 + (j - (k + 1)) = j by omega] at this
          omega
        · exact hP.le j h1 hj
    · rename_i hpos
      split
      · rename_i hre
        have hlen : k + 1 = u.length := by
          rw [hre] at hr
          have := congrArg List.length hr
          simp only [List.length_nil, List.length_drop] at this
          omega
        have he : (i + k + 1 - i).toNat = k + 1 := by omega
        refine ⟨by show i < i + k + 1; omega, by show i + k + 1 ≤ _; omega, by show 0 ≤ slk m (u.take (i + k + 1 - i).toNat); rw [he]; omega, by
          show 0 = _
          rw [if_pos (by show i + k + 1 = _; omega)], fun j h1 h2 h3 => ⟨?_, fun _ => by show i + j ≤ i + k + 1; omega⟩⟩
        split
        · exact Int.le_refl _
        · have h4 := sq_nonneg (slk m (u.take j))
          have h5 := hT0 _ (List.getElem_mem (show j - 1 < T.length by omega))
          rw [List.getElem?_eq_getElem (by omega), Option.getD_some]
          show 0 ≤ _
          omega
      · rename_i hre
        have hlen : k + 1 < u.length := by
          rcases Nat.lt_or_ge (k + 1) u.length with h | h
          · exact h
          · exact absurd (hr.trans (List.drop_of_length_le h)) hre
        have hcand : cand m u T (k + 1) = (s - (u[k] + 6)) * (s - (u[k] + 6)) + T[k].1 := by
          unfold cand
          rw [if_neg (by omega), hTg, hs', hs]
        have hsq := sq_nonneg (s - (u[k] + 6))
        have e1 : i + (k : Int) + 1 + 1 = i + ((k + 1 : Nat) : Int) + 1 := by omega
        split
        · rename_i hup
          rw [e1]
          refine inn_inv m hm hu hT hT0 i r (k + 1) _ _ _ hr hre (by rw [hs', hs]) (by omega) (.inr ⟨by omega, by omega, ?_⟩)
          have he : (i + k + 1 - i).toNat = k + 1 := by omega
          refine ⟨by omega, by omega, by rw [he, hs']; omega, by rw [he, hTg, hs', hs], fun j h1 h2 => ?_⟩
          rcases Nat.lt_or_ge k j with hj | hj
          · have : j = k + 1 := by omega
            subst this
            rw [hcand]
            exact ⟨Int.le_refl _, fun _ => by omega⟩
          · rcases hP with ⟨rfl, _⟩ | ⟨hk0, hc0, hP⟩
            · omega
            · have := (hP.le j h1 hj).1
              rcases hup with hup | hup
              · omega
              · exact ⟨by omega, fun _ => by omega⟩
        · rename_i hup
          rw [e1]
          rcases hP with ⟨rfl, hc⟩ | ⟨hk0, hc0, hP⟩
          · exact absurd (.inl hc) hup
          · refine inn_inv m hm hu hT hT0 i r (k + 1) _ _ _ hr hre (by rw [hs', hs]) (by omega) (.inr ⟨by omega, hc0, ?_⟩)
            have hP2 := hP.hi
            refine ⟨hP.lo, by omega, hP.fit, hP.eq, fun j h1 h2 => ?_⟩
            rcases Nat.lt_or_ge k j with hj | hj
            · have : j = k + 1 := by omega
              subst this
              rw [hcand]
              have : ¬ ((s - (u[k] + 6)) * (s - (u[k] + 6)) + T[k].1 ≤ c) := fun hc => hup (.inr hc)
              exact ⟨by omega, fun he => by omega⟩
            · exact hP.le j h1 hj
theorem inn_best (m : Int) (hm : 500 ≤ m) {u : List Int} (hu : ∀ x ∈ u, 1 ≤ x ∧ x ≤ 480) {T : List (Int × Int)} (hT : T.length = u.length) (hT0 : ∀ t ∈ T, 0 ≤ t.1) (i : Int) (hne : u ≠ []) :
    Best m u T i (inn m u T (i + 1) (m + 6) (-1) 0) := by
  have := inn_inv m hm hu hT hT0 i u 0 (m + 6) (-1) 0 rfl hne (by rw [List.take_zero, slk_nil]) (by omega) (.inl ⟨rfl, by omega⟩)
  simpa using this
theorem dpl_nonneg (m : Int) (hm : 500 ≤ m) : ∀ (u : List Int) (i : Int), (∀ x ∈ u, 1 ≤ x ∧ x ≤ 480) → ∀ t ∈ dpl m u i, 0 ≤ t.1
  | [], _, _, t, ht => by simp [dpl] at ht; subst ht; exact Int.le_refl _
  | x :: r, i, hu, t, ht => by
    have ihr := dpl_nonneg m hm r (i + 1) (fun y hy => hu y (by simp [hy]))
    rw [dpl] at ht
    rcases List.mem_cons.1 ht with rfl | ht
    · have hB := inn_best m hm hu (T := dpl m r (i + 1)) (by rw [dpl_len, List.length_cons]) ihr i (by simp)
      rw [hB.eq]
      split
      · exact Int.le_refl _
      · have h1 := sq_nonneg (slk m ((x :: r).take ((inn m (x :: r) (dpl m r (i + 1)) (i + 1) (m + 6) (-1) 0).2 - i).toNat))
        have h2 := hB.lo
        have h3 := hB.hi
        have hl : (dpl m r (i + 1)).length = r.length + 1 := dpl_len m r (i + 1)
        rw [List.length_cons] at h3
        rw [List.getElem?_eq_getElem (by omega), Option.getD_some]
        have := ihr _ (List.getElem_mem (show ((inn m (x :: r) (dpl m r (i + 1)) (i + 1) (m + 6) (-1) 0).2 - i).toNat - 1 < (dpl m r (i + 1)).length by omega))
        omega
    · exact ihr t ht
def at26 (D : List (Int × Int)) (i : Nat) : Int × Int := (D[i]?).getD (0, 0)
theorem at_drop (m : Int) (w : List Int) (a k : Nat) (ha : a ≤ w.length) : at26 (dpl m w 0) (a + k) = at26 (dpl m (w.drop a) a) k := by
  unfold at26
  have h := dpl_drop m w 0 a ha
  rw [Int.zero_add] at h
  rw [← h, List.getElem?_drop]
theorem dpl_best (m : Int) (hm : 500 ≤ m) : ∀ (u : List Int) (i : Int), u ≠ [] → (∀ x ∈ u, 1 ≤ x ∧ x ≤ 480) → Best m u (dpl m u.tail (i + 1)) i (at26 (dpl m u i) 0)
  | [], _, h, _ => absurd rfl h
  | x :: r, i, h, hu => inn_best m hm hu (T := dpl m r (i + 1)) (by rw [dpl_len, List.length_cons]) (dpl_nonneg m hm r (i + 1) fun y hy => hu y (List.mem_cons_of_mem _ hy)) i h
theorem at_best (m : Int) (hm : 500 ≤ m) {w : List Int} (hw : ∀ x ∈ w, 1 ≤ x ∧ x ≤ 480) (a : Nat) (ha : a < w.length) : Best m (w.drop a) (dpl m (w.drop (a + 1)) (a + 1)) a (at26 (dpl m w 0) a) := by
  have h1 := at_drop m w a 0 (by omega)
  rw [Nat.add_zero] at h1
  have h2 := dpl_best m hm (w.drop a) a (fun h => by have := congrArg List.length h; rw [List.length_drop, List.length_nil] at this; omega) (fun x hx => hw x (List.mem_of_mem_drop hx))
  rw [List.tail_drop] at h2
  rw [h1]
  exact h2
theorem cand_at (m : Int) (w : List Int) (a k : Nat) (ha : a < w.length) (hk : 0 < k) : ((dpl m (w.drop (a + 1)) (a + 1))[k - 1]?).getD (0, 0) = at26 (dpl m w 0) (a + k) := by
  have := at_drop m w (a + 1) (k - 1) (by omega)
  rw [show a + 1 + (k - 1) = a + k by omega] at this
  rw [this]
  rfl
theorem seg_take (w : List Int) (a k : Nat) : seg w a ((a + k : Nat) : Int) = (w.drop a).take k := by
  unfold seg
  rw [Int.toNat_natCast, Int.toNat_natCast, Nat.add_sub_cancel_left]
theorem ordE_le {n : Int} : ∀ {l : List Int} {a : Int}, ordE n a l = true → a ≤ n ∧ (l ≠ [] → a < n)
  | [], a, h => by simp [ordE] at h; exact ⟨by omega, fun h => absurd rfl h⟩
  | e :: r, a, h => by
    simp only [ordE, Bool.and_eq_true, decide_eq_true_eq] at h
    have := (ordE_le h.2).1
    exact ⟨by omega, fun _ => by omega⟩
theorem walkE_cons {D : List (Int × Int)} {n : Int} {f a : Nat} (h : (a : Int) < n) : walkE D n (f + 1) a = (at26 D a).2 :: walkE D n f (at26 D a).2 := by
  rw [walkE, if_pos h, Int.toNat_natCast]
  rfl
theorem walk_cost (m : Int) (hm : 500 ≤ m) {w : List Int} (hw : ∀ x ∈ w, 1 ≤ x ∧ x ≤ 480) : ∀ (f a : Nat), a ≤ w.length → w.length < a + f →
    ordE w.length a (walkE (dpl m w 0) w.length f a) = true ∧ (a < w.length → costG w m a (walkE (dpl m w 0) w.length f a) = some (at26 (dpl m w 0) a).1)
  | 0, a, ha, hf => by omega
  | f + 1, a, ha, hf => by
    rcases Nat.eq_or_lt_of_le ha with h | h
    · subst h
      rw [walkE, if_neg (by omega)]
      exact ⟨by simp [ordE], fun h => by omega⟩
    · have hB := at_best m hm hw a h
      have hul : (w.drop a).length = w.length - a := List.length_drop
      have h1 := hB.lo
      have h2 := hB.hi
      rw [walkE_cons (by omega)]
      obtain ⟨k, hk⟩ : ∃ k : Nat, (at26 (dpl m w 0) a).2 = ((a + k : Nat) : Int) := ⟨((at26 (dpl m w 0) a).2 - a).toNat, by omega⟩
      rw [hk]
      obtain ⟨i1, i2⟩ := walk_cost m hm hw f (a + k) (by omega) (by omega)
      refine ⟨by simp only [ordE, Bool.and_eq_true, decide_eq_true_eq]; exact ⟨by omega, i1⟩, fun _ => ?_⟩
      have h3 := hB.fit
      have h4 := hB.eq
      rw [hk] at h3 h4
      rw [show (((a + k : Nat) : Int) - (a : Int)).toNat = k by omega] at h3 h4
      rw [cand_at m w a k h (by omega)] at h4
      rw [costG, seg_take, if_neg (by omega)]
      split
      · rename_i hnil
        have := (walk_cost m hm hw f (a + k) (by omega) (by omega)).1
        rw [hnil] at this
        simp [ordE] at this
        rw [h4, if_pos (by omega)]
      · rename_i hnil
        have hlt : a + k < w.length := by
          rcases Nat.lt_or_ge (a + k) w.length with h | h
          · exact h
          · refine absurd ?_ hnil
            obtain ⟨f, rfl⟩ : ∃ g, f = g + 1 := ⟨f - 1, by omega⟩
            rw [walkE, if_neg (by omega)]
        rw [i2 hlt, Option.map_some, h4, if_neg (by omega)]
end Go.Proofs.YtocoinkhbjlbhaaDoor
end

section
namespace Go.Proofs.YtocoinkhbjlbhaaDoor
open Go Go.RowKit
section
variable {P : Program} {N : Nat} {G : TF} {d : Option Tmp} {ty : TypeId} {pos : String} {aft : Array Edge} {g : Option (Nat × Bool)}
theorem t_callv {f : FuncId} {x : Operand} {args : List Operand} {argT : Array TypeId} {Ps : List Pub} {Q : Pub} (hx : topP G x = some (pv (.func (.func f) #[] #[])) := by rfl) (ha : topPs G args = some Ps := by rfl) (h : Fn P f Ps Q) :
    TOp P N ⟨d, .call ⟨.value x, args.toArray, argT⟩, ty, pos, aft, g⟩ G [] (.pu Q) := .up (x :: args) (by simp [Op.operands, Call.operands]) fun {M0 w0 M w fr} hr hf => by
  obtain ⟨_, k0, rfl⟩ := hf.op hx (by simp)
  obtain ⟨vs, h1, h2⟩ := hf.ops ha (fun t h => by simp [h])
  exact op_callv (cap := []) (R := fun v w' => Q.p M w' v ∧ Below w.heap.size w w') h.ent k0 h1 (by simpa using h.run M w vs hr.mb hf.lay h2) fun v w' hv => ⟨hv.2, hv.1⟩
theorem t_sliceM {α : Type} {E : Enc α} {x lo hi mx : Operand} {l : List α} {t e : TypeId} {k k' k2 : IntKind} {m n : Int} (hx : topP G x = some (pSl E l) := by rfl) (h1 : topP G lo = some (pK k m) := by rfl) (h2 : topP G hi = some (pK k' n) := by rfl) (h3 : topP G mx = some (pK k2 n) := by rfl)
    (ht : USl P t e := by infer_instance) (hE : TEc P e E := by infer_instance) (hb : 0 ≤ m ∧ m ≤ n ∧ n ≤ l.length := by omega) :
    TOp P N ⟨d, .slice t x (some lo) (some hi) (some mx), ty, pos, aft, g⟩ G [] (.pu (pSl E ((l.drop m.toNat).take (n.toNat - m.toNat)))) := .pure [x, lo, hi, mx] (by simp [Op.operands]) fun {B M w fr} hf => by
  obtain ⟨_, k0, k1⟩ := hf.op hx (by simp)
  obtain ⟨_, q1, rfl, _⟩ := hf.op h1 (by simp)
  obtain ⟨_, q2, rfl, _⟩ := hf.op h2 (by simp)
  obtain ⟨_, q3, rfl, _⟩ := hf.op h3 (by simp)
  obtain ⟨a, cap, e1, e2, e3, e4, _⟩ := k1.ex
  obtain ⟨z, hz, hT⟩ := hE.out
  have hcut := k1.cut (lo := m.toNat) (hi := n.toNat) e1 (by omega) (by omega)
  obtain ⟨a2, cap2, f1, f2, f3, f4, f5, f6⟩ := hcut.ex
  have hlen : ((l.drop m.toNat).take (n.toNat - m.toNat)).length = n.toNat - m.toNat := by simp; omega
  have hsl : SlOf E M w (.slice (if n.toNat = m.toNat then a else a.map (·.add (m.toNat * E.sz))) (n.toNat - m.toNat) (n.toNat - m.toNat)) ((l.drop m.toNat).take (n.toNat - m.toNat)) := by
    refine ⟨_, n.toNat - m.toNat, by rw [hlen], by rw [hlen]; omega, by omega, fun h => ?_, f5, fun ad he i hi => ?_⟩
    · split at h
      · omega
      · cases a with
        | none => have := e4 rfl; omega
        | some ad => cases h
    · rw [hlen] at hi
      rw [if_neg (by omega)] at he
      simp only [Value.slice.injEq] at f1
      have hcap : ¬ cap = m.toNat := by omega
      rw [if_neg hcap] at f1
      exact f6 ad (f1.1.symm.trans he) i (by rw [hlen]; exact hi)
  refine OP.val (w' := w) (fun a' ha => ?_) ⟨rfl, hsl⟩
  have b0 : (Instr.sliceBound (.int k2 n) cap .slice3Acap).run P w = .ok n.toNat w := run_bound (by omega)
  have b1 : (Instr.sliceBound (.int k' n) n.toNat .slice3B).run P w = .ok n.toNat w := run_bound (by omega)
  have b2 : (Instr.sliceBound (.int k m) n.toNat .slice3C).run P w = .ok m.toNat w := run_bound (by omega)
  simp only [execOp, ha.eval k0, ha.eval q1, ha.eval q2, ha.eval q3, e1, Option.map_some]
  simp [Instr.sliceAt, Instr.slice, run_underlying ht.out, Instr.sliceBounds, b0, b1, b2, hT.run_sizeOf (w := w)]
end
theorem fitL_consts : ∀ (l : List Int), l.all (inR .i64) = true → ∀ {M : Mut} {w : World} {fr : Fr}, ∃ vs, opvs fr (l.map fun n => Operand.const (.int .i64 n)) = some vs ∧ Vals eI M w vs l
  | [], _, _, _, _ => ⟨[], rfl, trivial⟩
  | n :: l, h, M, w, fr => by
    simp only [List.all_cons, Bool.and_eq_true] at h
    obtain ⟨vs, h1, h2⟩ := fitL_consts l h.2 (M := M) (w := w) (fr := fr)
    have hr := inR_rng h.1
    exact ⟨.int .i64 n :: vs, by simp [opvs, opv, h1], ⟨_, ⟨rfl, hr.1, hr.2⟩, rfl⟩, h2⟩
theorem t_bsI {P : Program} {N : Nat} {G : TF} {d : Option Tmp} {ty : TypeId} {pos : String} {aft : Array Edge} {g : Option (Nat × Bool)} (l : List Int) {t e : TypeId} {n : Nat} {parts : List (Nat × Operand)} (hi : parts.map (·.1) = List.range' 0 n := by rfl)
    (hx : parts.map (·.2) = l.map (fun n => Operand.const (.int .i64 n)) := by rfl) (hr : l.all (inR .i64) = true := by rfl) (ht : USl P t e := by infer_instance) (hE : TEc P e eI := by infer_instance) (hn : n = l.length := by rfl)
    (hb : (l.length * eI.sz ≤ 16777216 ∧ l.length * eI.by_ ≤ 140737488351232) := by exact ⟨Nat.le_of_ble_eq_true rfl, Nat.le_of_ble_eq_true rfl⟩) : TOp P N ⟨d, .buildSlice t n parts.toArray, ty, pos, aft, g⟩ G [] (.pu (pSl eI l)) := .up [] (by simp) fun {M0 w0 M w fr} hrn _ => by
  obtain ⟨vs, h1, h2⟩ := fitL_consts l hr (M := M) (w := w) (fr := fr)
  rw [← hx] at h1
  exact op_buildSlice ht.out hE.out hrn hi h1 h2 hn hb fun v w' k1 _ k2 => ⟨k2, k1⟩
theorem i_len26 {M : Mut} {w : World} {v : Value} {l : List Int} (h : SlOf eI M w v l) : l.length ≤ 17592186044416 := by
  have := h.bytes
  have e : eI.by_ = 8 := rfl
  rw [e] at this
  omega
theorem around_f {n m : Int} (h : 1 ≤ m) : Fn Tryd.prog 9 [pI n, pI m] (pI (aro n m)) := ⟨ent9, fun M w vs _ _ hf => by
  match vs, hf with
  | [u, v], ⟨⟨h1, h2⟩, ⟨h3, h4⟩, _⟩ =>
    subst h1 h3
    have := aro_bd n m h
    have h5 := h4.1 rfl
    unfold I64 at h5
    exact (around01 n m w (h2.1 rfl) h).mono fun u w' ⟨e, e2⟩ => ⟨⟨e, rng64 (by omega)⟩, e2 ▸ Below.refl _ _⟩⟩
def pickM (l : List Int) (i m : Int) : Int := if i < 0 ∨ (l.length : Int) ≤ i then 0 else aro ((l[i.toNat]?).getD 0) m
theorem pickM_bd (l : List Int) (i m : Int) (h : 1 ≤ m) : 0 ≤ pickM l i m ∧ pickM l i m < m := by
  unfold pickM
  split
  · omega
  · exact aro_bd _ _ h
theorem pick_f {l : List Int} {i m : Int} (h : 1 ≤ m) : Fn Tryd.prog 27 [pSl eI l, pI i, pI m] (pI (pickM l i m)) := by
  refine fn_of ent27 Tryd.func27 rfl Tryd.ntmps27 rfl fun M0 w0 => ?_
  unfold pickM
  by_cases h1 : i < 0
  · rw [if_pos (.inl h1)]
    (repeat (first | refine c_seq ?_ | refine c_reg ?_ | refine c_rnil ?_ | refine c_true ?_ | refine c_no ?_ | refine c_op (by first | exact t_move | exact t_assign | exact t_pickT | exact t_lssT | fail) ?_ | fail))
    refine c_ret1 Tryd.func27 rfl ?_
    exact fun h => h
  by_cases h2 : (l.length : Int) ≤ i
  · rw [if_pos (.inr h2)]
    (repeat (first | refine c_seq ?_ | refine c_reg ?_ | refine c_rnil ?_ | refine c_true ?_ | refine c_yes ?_ | refine c_op (by first | exact t_move | exact t_assign | exact t_pickF | exact t_lssF | exact t_geqT | exact t_len | fail) ?_ | fail))
    refine c_ret1 Tryd.func27 rfl ?_
    exact fun h => h
  rw [if_neg (by omega), List.getElem?_eq_getElem (show i.toNat < l.length by omega), Option.getD_some]
  (repeat (first | refine c_seq ?_ | refine c_reg ?_ | refine c_rnil ?_ | refine c_skip ?_ | refine c_false ?_ | refine c_yes ?_ | refine c_op (by first | exact t_call (h := (around_f h)) | exact t_move | exact t_assign | exact t_pickF | exact t_lssF | exact t_geqF | exact t_len | exact t_idx | exact t_load | fail) ?_ | fail))
  refine c_ret1 Tryd.func27 rfl ?_
  exact fun h => h
structure WOK (w : List Int) : Prop where
  len : w.length ≤ 60
  ok : ∀ x ∈ w, 1 ≤ x ∧ x ≤ 480
end Go.Proofs.YtocoinkhbjlbhaaDoor
end

section
namespace Go.Proofs.YtocoinkhbjlbhaaDoor
open Go Go.RowKit
def gw (c : Int) : Int := if c < 33 ∨ 127 ≤ c then 0 else (tbl[(c - 33).toNat]?).getD 0
def bs (s : ByteArray) : List Int := s.data.toList.map fun b => (b.toNat : Int)
def sumG (l : List Int) : Int := (l.map gw).sum
def okG (l : List Int) : Bool := l.all fun c => decide (gw c ≠ 0)
def widM (s : ByteArray) : Int := if 40 < s.size then 0 else if okG (bs s) = true then sumG (bs s) else 0
theorem bs_len (s : ByteArray) : (bs s).length = s.size := by simp [bs]
theorem bs_get (s : ByteArray) (i : Nat) (h : i < s.size) : (bs s)[i]'(by rw [bs_len]; exact h) = ((s[i]'h).toNat : Int) := by
  simp [bs]; rfl
theorem bs_take {s : ByteArray} {i : Nat} (h : i < s.size) : (bs s).take (i + 1) = (bs s).take i ++ [((s[i]'h).toNat : Int)] := by
  rw [List.take_succ_eq_append_getElem (by rw [bs_len]; exact h), bs_get s i h]
theorem sumG_append (a b : List Int) : sumG (a ++ b) = sumG a + sumG b := by simp [sumG]
theorem okG_append (a b : List Int) : okG (a ++ b) = (okG a && okG b) := by simp [okG]
theorem gw_rng (c : Int) : 0 ≤ gw c ∧ gw c ≤ 12 := by
  unfold gw
  split
  · omega
  · cases h : tbl[(c - 33).toNat]? with
    | none => simp
    | some x =>
      have hall : ∀ x ∈ tbl, 0 ≤ x ∧ x ≤ 12 := by decide
      exact hall x (List.mem_of_getElem? h)
theorem sumG_rng : ∀ l : List Int, 0 ≤ sumG l ∧ sumG l ≤ 12 * l.length
  | [] => by simp [sumG]
  | c :: l => by
    have h1 := gw_rng c
    have h2 := sumG_rng l
    have e : sumG (c :: l) = gw c + sumG l := by simp [sumG]
    rw [e]
    simp only [List.length_cons]
    omega
theorem widM_rng (s : ByteArray) : 0 ≤ widM s ∧ widM s ≤ 480 := by
  have h1 := sumG_rng (bs s)
  rw [bs_len] at h1
  unfold widM
  split
  · omega
  · split <;> omega
theorem glyphWidth_f {c : Int} (hc : 0 ≤ c ∧ c ≤ 255) : Fn Tryd.prog 40 [pK .u8 c] (pI (gw c)) := by
  have hlt : tbl.length = 94 := rfl
  refine fn_of ent40 Tryd.func40 rfl Tryd.ntmps40 rfl fun M0 w0 => ?_
  unfold gw
  by_cases h1 : c < 33
  · rw [if_pos (.inl h1)]
    (repeat (first | refine c_seq ?_ | refine c_reg ?_ | refine c_rnil ?_ | refine c_true ?_ | refine c_no ?_ | refine c_op (by first | exact t_move | exact t_assign | exact t_pickT | exact t_lssT | fail) ?_ | fail))
    refine c_ret1 Tryd.func40 rfl ?_
    exact fun h => h
  by_cases h2 : 127 ≤ c
  · rw [if_pos (.inr h2)]
    (repeat (first | refine c_seq ?_ | refine c_reg ?_ | refine c_rnil ?_ | refine c_true ?_ | refine c_yes ?_ | refine c_op (by first | exact (t_cvB) | exact t_move | exact t_assign | exact t_pickF | exact t_lssF | exact t_geqT | fail) ?_ | fail))
    refine c_ret1 Tryd.func40 rfl ?_
    exact fun h => h
  · rw [if_neg (by omega), List.getElem?_eq_getElem (show (c - 33).toNat < tbl.length by omega), Option.getD_some]
    (repeat (first | refine c_seq ?_ | refine c_reg ?_ | refine c_rnil ?_ | refine c_skip ?_ | refine c_false ?_ | refine c_yes ?_ | refine c_op (by first | exact (t_cvB) | exact (t_subB) | exact (t_idxT (ht := Tryd.underlying96) (hE := tdU8) (hn := (by omega))) | exact t_move | exact t_assign | exact t_pickF | exact t_lssF | exact t_geqF | exact t_load | fail) ?_ | fail))
    refine c_ret1 Tryd.func40 rfl ?_
    exact fun h => h
set_option maxHeartbeats 1000000 in
theorem width25_f {s : ByteArray} : Fn Tryd.prog 17 [pS s] (pI (widM s)) := by
  refine fn_of ent17 Tryd.func17 rfl Tryd.ntmps17 rfl fun M0 w0 => ?_
  by_cases h40 : 40 < s.size
  · have e : widM s = 0 := by unfold widM; rw [if_pos h40]
    rw [e]
    (repeat (first | refine c_seq ?_ | refine c_reg ?_ | refine c_rnil ?_ | refine c_true ?_ | refine c_op (by first | exact (t_lenStr) | exact t_move | exact t_assign | exact t_gtrT | fail) ?_ | fail))
    refine c_ret1 Tryd.func17 rfl ?_
    exact fun h => h
  (repeat (first | refine c_seq ?_ | refine c_reg ?_ | refine c_rnil ?_ | refine c_block ?_ | refine c_skip ?_ | refine c_false ?_ | refine c_op (by first | exact (t_lenStr) | exact t_move | exact t_assign | exact t_gtrF | fail) ?_ | fail))
  refine c_loop (fun i : Nat => [(0, .pu (pS s)), (3, .pu (pI (sumG ((bs s).take i)))), (10, .pu (pI s.size)), (11, .pu (pI i))]) (fun i => i ≤ s.size ∧ okG ((bs s).take i) = true) (fun i => s.size - i) 0 ⟨by omega, rfl⟩ (by repeat (first | exact trivial | refine ⟨has_rfl rfl, ?_⟩ | fail)) fun i hi ih => ?_
  obtain ⟨hi, hok⟩ := hi
  have hsum := sumG_rng ((bs s).take i)
  have htl : ((bs s).take i).length = i := by rw [List.length_take, bs_len]; omega
  rw [htl] at hsum
  by_cases hlt : i < s.size
  · have hg := gw_rng ((s[i]'hlt).toNat : Int)
    have hb := (s[i]'hlt).toNat_lt
    by_cases h0 : gw ((s[i]'hlt).toNat : Int) = 0
    · have e : widM s = 0 := by
        unfold widM
        rw [if_neg h40, if_neg]
        intro hc
        unfold okG at hc
        rw [List.all_eq_true] at hc
        have := hc _ (List.getElem_mem (show i < (bs s).length by rw [bs_len]; exact hlt))
        rw [bs_get s i hlt] at this
        simp [h0] at this
      rw [e]
      (repeat (first | refine c_seq ?_ | refine c_reg ?_ | refine c_rnil ?_ | refine c_block ?_ | refine c_skip ?_ | refine c_true ?_ | refine c_op (by first | exact (t_idxStr) | exact t_call (h := (glyphWidth_f (by omega))) | exact t_move | exact t_assign | exact t_lssT | exact t_eqlT | fail) ?_ | fail))
      refine c_ret1 Tryd.func17 rfl ?_
      exact fun h => h
    · (repeat (first | refine c_seq ?_ | refine c_reg ?_ | refine c_rnil ?_ | refine c_block ?_ | refine c_inBlock ?_ | refine c_skip ?_ | refine c_true ?_ | refine c_false ?_ | refine c_op (by first | exact (t_idxStr) | exact t_call (h := (glyphWidth_f (by omega))) | exact t_move | exact t_assign | exact t_add | exact t_lssT | exact t_eqlF | fail) ?_ | fail))
      refine (ih (i + 1) ⟨by omega, ?_⟩ (by omega)).sub ?_
      · rw [bs_take hlt, okG_append, hok]
        simp [okG, h0]
      · have e2 : sumG ((bs s).take (i + 1)) = sumG ((bs s).take i) + gw ((s[i]'hlt).toNat : Int) := by
          rw [bs_take hlt, sumG_append]; simp [sumG]
        rw [e2]
        (repeat' (first | exact trivial | refine ⟨?_, ?_⟩ | fail)) <;> (try first | exact has_rfl rfl | exact has_nil rfl | exact has_nilS rfl | exact has_gr rfl | exact has_int rfl (by first | omega | fail) | fail)
  · have hi2 : i = s.size := by omega
    have htk : (bs s).take i = bs s := by rw [hi2, ← bs_len, List.take_length]
    rw [htk] at hok
    have e : widM s = sumG (bs s) := by unfold widM; rw [if_neg h40, if_pos hok]
    rw [e]
    (repeat (first | refine c_seq ?_ | refine c_reg ?_ | refine c_rnil ?_ | refine c_exit ?_ | refine c_false ?_ | refine c_op (by first | exact t_move | exact t_assign | exact t_lssF | fail) ?_ | fail))
    refine c_ret1 Tryd.func17 rfl ?_
    exact fun h => by rw [htk] at h; exact h
theorem valid25_f {s : ByteArray} : Fn Tryd.prog 56 [pS s] (pB (decide (0 < widM s))) := by
  refine fn_of ent56 Tryd.func56 rfl Tryd.ntmps56 rfl fun M0 w0 => ?_
  (repeat (first | refine c_seq ?_ | refine c_reg ?_ | refine c_rnil ?_ | refine c_op (by first | exact t_call (h := width25_f) | exact t_move | exact t_assign | exact t_gtr | fail) ?_ | fail))
  refine c_ret1 Tryd.func56 rfl ?_
  exact fun h => h
end Go.Proofs.YtocoinkhbjlbhaaDoor
end

section
namespace Go.Proofs.YtocoinkhbjlbhaaDoor
open Go Go.RowKit
def okWd (s : ByteArray) : Prop := 1 ≤ s.size ∧ s.size ≤ 40 ∧ okG (bs s) = true
instance (s : ByteArray) : Decidable (okWd s) := by unfold okWd; infer_instance
end Go.Proofs.YtocoinkhbjlbhaaDoor
end

section
namespace Go.Proofs.YtocoinkhbjlbhaaDoor
open Go Go.RowKit
structure TOpE (P : Program) (N : Nat) (o : Oper) (G : TF) (W : List Nat) {β : Type} (T T' : β → Kd) : Prop where
  out : ∃ xs : List Operand, (∀ x ∈ xs, x ∈ o.op.operands) ∧ ∀ {M0 : Mut} {w0 : World} {M : Mut} {w : World} {fr : Fr}, Rn M0 w0 M w → FitX w0.heap.size M w fr G (fun t => Operand.tmp t ∈ xs) →
    OP P N o fr w (fun v w' => ∃ (x : β) (M' : Mut), StW w0.heap.size W M w M' w' ∧ (T x).V w0.heap.size M' w' v ∧ (T' x).V w0.heap.size M' w' undef)
theorem TOpE.fit {P : Program} {N : Nat} {o : Oper} {G : TF} {W : List Nat} {β : Type} {T T' : β → Kd} (h : TOpE P N o G W T T') {M0 : Mut} {w0 : World} {M : Mut} {w : World} {fr : Fr} (hr : Rn M0 w0 M w) (hf : Fit w0.heap.size M w fr G) :
    OP P N o fr w (fun v w' => ∃ (x : β) (M' : Mut), StW w0.heap.size W M w M' w' ∧ (T x).V w0.heap.size M' w' v ∧ (T' x).V w0.heap.size M' w' undef) := by
  obtain ⟨xs, _, h2⟩ := h.out
  exact h2 hr ⟨hf.lay, fun t T hT _ => hf.out t T hT (.inr trivial)⟩
section
variable {P : Program} {f : FuncId} {N : Nat} {M0 : Mut} {w0 : World} {R : Value → World → Prop} {G : TF} {k : List Item}
variable {ops : Array Oper} {d : Nat} {op : Op} {ty : TypeId} {pos : String} {aft : Array Edge} {rest : List Oper}
theorem c_gh {todo : List Item} (key key' : Nat) {g : Gh} (T' : Kd) (hs : ∀ {B : Nat} {M : Mut} {w : World}, g.p B M w undef → T'.V B M w undef) (h : Rt P f N M0 w0 todo ((key', T') :: G) R) (ht : tlook G key = some (.gh g) := by rfl) (hg : T'.ghost = true := by rfl) :
    Rt P f N M0 w0 todo G R := ⟨fun hr hf => h.out hr (hf.hide (Kd.E_of_V hg (hs (hf.out key _ ht (.inr trivial)))))⟩
theorem c_gh2 {todo : List Item} (key key2 key' : Nat) {g g2 : Gh} (T' : Kd) (hs : ∀ {B : Nat} {M : Mut} {w : World}, g.p B M w undef → g2.p B M w undef → T'.V B M w undef) (h : Rt P f N M0 w0 todo ((key', T') :: G) R) (ht : tlook G key = some (.gh g) := by rfl) (ht2 : tlook G key2 = some (.gh g2) := by rfl)
    (hg : T'.ghost = true := by rfl) : Rt P f N M0 w0 todo G R := ⟨fun hr hf => h.out hr (hf.hide (Kd.E_of_V hg (hs (hf.out key _ ht (.inr trivial)) (hf.out key2 _ ht2 (.inr trivial)))))⟩
theorem c_gnew {todo : List Item} (key : Nat) (T' : Kd) (hs : ∀ {B : Nat} {M : Mut} {w : World}, T'.V B M w undef) (h : Rt P f N M0 w0 todo ((key, T') :: G) R) (hg : T'.ghost = true := by rfl) : Rt P f N M0 w0 todo G R :=
  ⟨fun hr hf => h.out hr (hf.hide (Kd.E_of_V hg hs))⟩
end
theorem c_join {P : Program} {f : FuncId} {N : Nat} {M0 : Mut} {w0 : World} {R : Value → World → Prop} {G : TF} {todo todo2 : List Item} (F : TF) (h : (∀ {G}, SubT F G → Rt P f N M0 w0 todo2 G R) → Rt P f N M0 w0 todo G R) (h2 : Rt P f N M0 w0 todo2 F R) : Rt P f N M0 w0 todo G R :=
  h fun hs => h2.sub hs
def varG {α : Type} (E : Enc α) (tag : Nat) (e : TypeId) : Gh where
  tags := [tag]
  p := fun B M w v => ∃ (b : Nat) (cs : List Value), v = .pointer (some ⟨b, 0, none⟩) ∧ B ≤ b ∧ cs.length = E.sz ∧ Box M w b tag cs e
  mono := fun ⟨b, cs, h1, h2, h3, h4⟩ hs ht => ⟨b, cs, h1, h2, h3, h4.stw hs (ht _ (by simp))⟩
section
variable {P : Program} {f : FuncId} {N : Nat} {M0 : Mut} {w0 : World} {R : Value → World → Prop} {G : TF} {k : List Item}
variable {ops : Array Oper} {d : Nat} {ty : TypeId} {pos : String} {aft : Array Edge} {rest : List Oper} {g : Option (Nat × Bool)}
theorem t_allocV {α : Type} {E : Enc α} {e : TypeId} (hE : TEc P e E := by infer_instance) : TOp P N ⟨some d, .alloc e, ty, pos, aft, g⟩ G [] (.go (varG E (1000 + d) e)) := ⟨[], by simp, fun {M0 w0 M w fr} hr _ => by
  obtain ⟨z, hz, hT⟩ := hE.out
  exact op_alloc (1000 + d) hr hT fun b w' M' hB hbx hup => ⟨M', StW.up hr.size hup, b, z, rfl, hB, hz, hbx⟩⟩
theorem stV_run {α : Type} {E : Enc α} {M M0 : Mut} {w0 w : World} {fr : Fr} {x y : Operand} {t e tag : Nat} {p : Pub} {x' : α} {v u : Value} {Ψ : Value → World → Prop} {dd : Option Tmp} (hr : Rn M0 w0 M w) (hx : opv fr x = some v) (hv : (varG E tag e).p w0.heap.size M w v)
    (hy : opv fr y = some u) (hu : p.p M w u) (hp : PEc p E x') (hE : TEc P t E)
    (h : ∀ M' w', StW w0.heap.size [tag] M w M' w' → (pPtr E x').p M' w' v → Ψ undef w') : OP P N ⟨dd, .store t x y, ty, pos, aft, g⟩ fr w Ψ := by
  obtain ⟨b, cs, rfl, hB, hlen, hbx⟩ := hv
  obtain ⟨z, hz, hT⟩ := hE.out
  obtain ⟨c, c1, c2⟩ := hp.out hu
  have hcl := E.len c1
  refine op_store hT hx hy (by rw [c2]; exact mkv_cells c1) (E.one c1) hcl hr hB hbx (by omega) fun w' hb' hst => ?_
  have hsp : splice cs 0 c = c := by
    unfold splice
    rw [List.take_zero, List.nil_append, List.drop_of_length_le (by omega), List.append_nil]
  rw [hsp] at hb'
  have hcl2 := St.clear (B := w0.heap.size) (w := w') hB hb'.mark
  have hs := StW.trans (StW.st hst) (StW.st hcl2)
  refine h _ _ hs ⟨_, rfl, c, E.mono c1 hs.x, fun j u hj => ?_⟩
  rw [Addr.add_lit, Nat.zero_add]
  refine ⟨by rw [hb'.cell]; exact hj, fun q hq => by simp [Mut.set] at hq⟩
theorem c_stV {α : Type} {E : Enc α} {s : Nat} {y : Operand} {t e tag : Nat} {p : Pub} {x' : α} (hk : RLt P f N M0 w0 ops k R rest ((s, .pu (pPtr E x')) :: dropW [tag] G)) (hx : tlook G s = some (.go (varG E tag e)) := by rfl) (hy : topP G y = some p := by rfl)
    (hp : PEc p E x' := by infer_instance) (hE : TEc P t E := by infer_instance) : RLt P f N M0 w0 ops k R (⟨none, .store t (.tmp s) y, ty, pos, aft, none⟩ :: rest) G := ⟨fun {M w fr} hr hf => by
  obtain ⟨v, h1, h2⟩ := hf.out s _ hx (.inr trivial)
  obtain ⟨u, h3, h4⟩ := hf.op0 hy (fun _ _ => trivial)
  refine rl_step0 (stV_run hr h1 h2 h3 h4 hp hE fun M' w' hs hv => ?_)
  exact hk.out (hr.stw hs) ((hf.after hs).hide ⟨v, h1, hv⟩)⟩
end
def pSv (b n cap : Nat) : Pub := pv (.slice (some ⟨b, 0, none⟩) n cap)
def RetG {α : Type} (M0 : Mut) (w0 : World) (E : Enc α) (l : List α) (e : TypeId) : Value → World → Prop := fun v w =>
  Below w0.heap.size w0 w ∧ ∀ tag, ∃ M', UpM M0 w0 M' w ∧ SlOf E M' w v l ∧ Grow w0.heap.size M' w v l.length E.sz tag e
structure FnG {α : Type} (P : Program) (g : FuncId) (Ps : List Pub) (E : Enc α) (l : List α) (e : TypeId) : Prop where
  ent : Ent P g
  run : ∀ M w vs, MB M w → Lays M w → FitL M w Ps vs → CallsV P g vs w (RetG M w E l e)
theorem fnG_of {α : Type} {P : Program} {f : FuncId} {N : Nat} {fn : Func} {c : Code} {Ps : List Pub} {E : Enc α} {l : List α} {e : TypeId} (he : Ent P f) (hf : P.funcs[f]? = some fn) (hb : fn.body = some c) (hN : fn.ntmps = N) (hn : Nat.ble Ps.length N = true)
    (h : ∀ M0 w0, Rt P f N M0 w0 [.code c] (argTF 0 Ps) (RetG M0 w0 E l e)) : FnG P f Ps E l e := ⟨he, fun M w vs hm hl hv => by
  have hlen := hv.len
  exact callsV_of_run hf hb hN (by rw [hlen]; exact Nat.le_of_ble_eq_true hn) ((h M w).out (Rn.refl hm) (fit_args hl 0 hv))⟩
theorem Grow.low {B B' : Nat} {M : Mut} {w : World} {v : Value} {n sz tag : Nat} {e : TypeId} (h : Grow B M w v n sz tag e) (hB : B' ≤ B) : Grow B' M w v n sz tag e := by
  rcases h.ex with h | ⟨g, off, cap, cur, h1, h2, h3⟩
  · exact ⟨.inl h⟩
  · exact ⟨.inr ⟨g, off, cap, cur, h1, Nat.le_trans hB h2, h3⟩⟩
theorem t_callG {α : Type} {P : Program} {N : Nat} {G : TF} {d : Option Tmp} {ty : TypeId} {pos : String} {aft : Array Edge} {g : Option (Nat × Bool)} {f : FuncId} {args : List Operand} {argT : Array TypeId} {Ps : List Pub} {E : Enc α} {l : List α} {e : TypeId} (tag : Nat) (h : FnG P f Ps E l e)
    (ha : topPs G args = some Ps := by rfl) : TOp P N ⟨d, .call ⟨.value (.func f), args.toArray, argT⟩, ty, pos, aft, g⟩ G [] (.gr E l tag e) := ⟨args, (by simp [Op.operands, Call.operands]; intro x hx; exact .inr hx), fun {M0 w0 M w fr} hr hf => by
  obtain ⟨vs, h1, h2⟩ := hf.ops ha (fun _ h => h)
  refine op_call h.ent h1 (h.run M w vs hr.mb hf.lay h2) fun v w' ⟨_, hv⟩ => ?_
  obtain ⟨M', k1, k2, k3⟩ := hv tag
  exact ⟨M', StW.up hr.size k1, k2, k3.low hr.size⟩⟩
section
variable {P : Program} {f : FuncId} {N : Nat} {M0 : Mut} {w0 : World} {R : Value → World → Prop} {G : TF} {k : List Item}
variable {ops : Array Oper} {d : Nat} {ty : TypeId} {pos : String} {aft : Array Edge} {rest : List Oper}
theorem c_retGN {α : Type} {E : Enc α} {e : TypeId} {fn : Func} {t : Nat} (hf : P.funcs[f]? = some fn) (hr : fn.results = #[.tmp t]) (hp : topP G (.tmp t) = some (pv (.slice none 0 0)) := by rfl) :
    Rt P f N M0 w0 (.code .ret :: k) G (RetG M0 w0 E ([] : List α) e) := ⟨fun {M w fr} hrn hfit => by
  obtain ⟨v, h1, rfl⟩ := hfit.op0 hp (fun _ _ => trivial)
  exact run_ret1 hf hr h1 ⟨hrn.bel, fun tag => ⟨M0, UpM.of_below hrn.bel, SlOf.nil _ _ _, Grow.nil⟩⟩⟩
theorem c_retG0 {α : Type} {E : Enc α} {e : TypeId} {fn : Func} {t b cap tag : Nat} {cs : List Value} (key : Nat) (hf : P.funcs[f]? = some fn) (hr : fn.results = #[.tmp t]) (hc : cs.length = cap * E.sz) (hm : cap ≤ maxLen) (hp : topP G (.tmp t) = some (pSv b 0 cap) := by rfl) (hg : tlook G key = some (.bx b tag cs e) := by rfl) :
    Rt P f N M0 w0 (.code .ret :: k) G (RetG M0 w0 E ([] : List α) e) := ⟨fun {M w fr} hrn hfit => by
  obtain ⟨v, h1, rfl⟩ := hfit.op0 hp (fun _ _ => trivial)
  obtain ⟨hB, hb⟩ := hfit.out key _ hg (.inr trivial)
  have hlt := hb.lt
  refine run_ret1 hf hr h1 ⟨hrn.bel, fun tag' => ⟨M0.set b (some (0, tag')), ⟨hrn.bel, fun c hc => by unfold Mut.set; rw [if_neg (by omega)], fun hmb c hc => by
    unfold Mut.set
    rw [if_neg (by omega)]
    exact hmb c (Nat.le_trans hrn.bel.size hc)⟩, ⟨some ⟨b, 0, none⟩, cap, rfl, Nat.zero_le _, hm, (fun e => by cases e), by simp, fun _ _ i hi => by simp at hi⟩, ⟨.inr ⟨b, 0, cap, cs.toArray, rfl, hB, hb.heap, Nat.zero_le _, hm, by simp [hc], by simp [Mut.set]⟩⟩⟩⟩⟩
theorem c_appZ {α : Type} {E : Enc α} {x y : Operand} {t tn e : TypeId} {kn k' : IntKind} {n by' : Nat} (tag key : Nat) (htn : P.underlying tn = some (.int kn)) (hk : ∀ b cap cs, n ≤ cap → cap ≤ maxLen → cs.length = cap * E.sz → RLt P f N M0 w0 ops k R rest ((d, .pu (pSv b n cap)) :: (key, .bx b tag cs e) :: G))
    (hx : topP G x = some (pv (.slice none 0 0)) := by rfl) (hy : topP G y = some (pK k' (n : Int)) := by rfl) (ht : USl P t e := by infer_instance) (hE : TEc P e E := by infer_instance) (hb : BYc E by' := by infer_instance)
    (h0 : 0 < n := by omega) (h48 : n * by' ≤ 140737488351232 := by omega) (h63 : n ≤ maxLen := by assumption) (hd : d < N := by decide) :
    RLt P f N M0 w0 ops k R (⟨some d, .call ⟨.builtin .append, #[x, y], #[t, tn]⟩, ty, pos, aft, none⟩ :: rest) G := ⟨fun {M w fr} hr hf => by
  obtain ⟨_, k0, rfl⟩ := hf.op0 hx (fun _ _ => trivial)
  obtain ⟨_, k1, rfl, _⟩ := hf.op0 hy (fun _ _ => trivial)
  obtain ⟨z, hz, hT⟩ := hE.out
  obtain ⟨i, z', hi, hs, hby, hz', hzc⟩ := hT.info
  have hpos := E.pos
  have hrun := Lib.run_append_nil_zeros (P := P) w t tn ty e i z' k' kn ht.out htn hi hz' n h0 (by omega) (by unfold maxLen at h63; omega) (by rw [hby, hb.out]; omega)
  have hcap := grownCap_ge w n 0 e
  have hmax := grownCap_le_maxLen w n 0 e h63
  have hzl : z'.cells.size = E.sz := by rw [hzc]; simpa using hz
  have hcs : (Builtin.zeroCells z'.cells n ++ Builtin.zeroCells z'.cells (grownCap w n 0 e - n)).toList.length = grownCap w n 0 e * E.sz := by
    rw [Array.length_toList, Array.size_append, size_zeroCells, size_zeroCells, hzl, ← Nat.add_mul]
    congr 1
    omega
  have hst := St.alloc (M := M) (w := w) (B := w0.heap.size) hr.size hr.mb (.cells (Builtin.zeroCells z'.cells n ++ Builtin.zeroCells z'.cells (grownCap w n 0 e - n)) e) (some (0, tag))
    (w' := w.drew.alloc (.cells (Builtin.zeroCells z'.cells n ++ Builtin.zeroCells z'.cells (grownCap w n 0 e - n)) e)) rfl rfl rfl rfl
  have hsw : StW w0.heap.size [] M w (M.set w.heap.size (some (0, tag))) (w.drew.alloc (.cells (Builtin.zeroCells z'.cells n ++ Builtin.zeroCells z'.cells (grownCap w n 0 e - n)) e)) :=
    ⟨hst.x, hst.mb, hst.old, hst.bel, fun b p hp _ hb => hst.keep b p hp (by simp) hb⟩
  refine rl_step hd (OP.val (v := .slice (some ⟨w.heap.size, 0, none⟩) n (grownCap w n 0 e)) (w' := w.drew.alloc (.cells (Builtin.zeroCells z'.cells n ++ Builtin.zeroCells z'.cells (grownCap w n 0 e - n)) e))
    (fun a ha => by simp only [execOp, resolve, invoke, builtin, Sem.run_bind, Sem.run_pure, Result.andThen_ok, List.map_toArray, List.map_cons, List.map_nil, ha.eval k0, ha.eval k1, hrun]) ?_)
  refine (hk w.heap.size (grownCap w n 0 e) _ hcap hmax hcs).out (hr.stw hsw) (Fit.cons (T := .pu (pSv w.heap.size n (grownCap w n 0 e))) (Fit.hide (T := .bx w.heap.size tag _ e) (hf.up hsw) ⟨hr.size, ?_, by simp [Mut.set]⟩) rfl)
  rw [Array.toArray_toList]
  exact heap_alloc_new w.drew _⟩
end
section
variable {P : Program} {N : Nat} {G : TF} {d : Option Tmp} {ty : TypeId} {pos : String} {aft : Array Edge} {g : Option (Nat × Bool)}
theorem t_capN {x : Operand} {t e : TypeId} (hx : topP G x = some (pv (.slice none 0 0)) := by rfl) (ht : USl P t e := by infer_instance) :
    TOp P N ⟨d, .call ⟨.builtin .cap, #[x], #[t]⟩, ty, pos, aft, g⟩ G [] (.pu (pI 0)) := .pure [x] (by simp [Op.operands, Call.operands]) fun {B M w fr} hf => by
  obtain ⟨_, h0, rfl⟩ := hf.op hx (by simp)
  exact OP.val (v := .int .i64 0) (fun a ha => by
    simp [execOp, resolve, invoke, builtin, Builtin.cap_, ha.eval h0, run_underlying ht.out, goInt]) ⟨rfl, rfl, rng64 (by omega)⟩
theorem t_sliceNH {α : Type} {E : Enc α} {x hi : Operand} {t e : TypeId} {k : IntKind} (hx : topP G x = some (pv (.slice none 0 0)) := by rfl) (h1 : topP G hi = some (pK k 0) := by rfl)
    (ht : USl P t e := by infer_instance) (hE : TEc P e E := by infer_instance) : TOp P N ⟨d, .slice t x none (some hi) none, ty, pos, aft, g⟩ G [] (.pu (pv (.slice none 0 0))) := .pure [x, hi] (by simp [Op.operands]) fun {B M w fr} hf => by
  obtain ⟨_, k0, rfl⟩ := hf.op hx (by simp)
  obtain ⟨_, k2, rfl, _⟩ := hf.op h1 (by simp)
  obtain ⟨z, hz, hT⟩ := hE.out
  refine OP.val (w' := w) (fun a' ha => ?_) ⟨rfl, rfl⟩
  have b2 : (Instr.sliceBound (.int k 0) 0 .sliceAcap).run P w = .ok 0 w := run_bound (n := 0) (by omega)
  simp only [execOp, ha.eval k0, ha.eval k2, Option.map_some, Option.map_none]
  simp [Instr.sliceAt, Instr.slice, run_underlying ht.out, Instr.sliceBounds, b2, hT.run_sizeOf (w := w)]
theorem t_sliceSH {α : Type} {E : Enc α} {x hi : Operand} {b n cap m : Nat} {t e : TypeId} {k : IntKind} (hx : topP G x = some (pSv b n cap) := by rfl) (h1 : topP G hi = some (pK k (m : Int)) := by rfl)
    (ht : USl P t e := by infer_instance) (hE : TEc P e E := by infer_instance) (hb : m ≤ cap := by omega) : TOp P N ⟨d, .slice t x none (some hi) none, ty, pos, aft, g⟩ G [] (.pu (pSv b m cap)) := .pure [x, hi] (by simp [Op.operands]) fun {B M w fr} hf => by
  obtain ⟨_, k0, rfl⟩ := hf.op hx (by simp)
  obtain ⟨_, k2, rfl, _⟩ := hf.op h1 (by simp)
  obtain ⟨z, hz, hT⟩ := hE.out
  refine OP.val (w' := w) (fun a' ha => ?_) ⟨rfl, rfl⟩
  have b2 : (Instr.sliceBound (.int k (m : Int)) cap .sliceAcap).run P w = .ok m w := run_bound (n := m) (by omega)
  simp only [execOp, ha.eval k0, ha.eval k2, Option.map_some, Option.map_none]
  simp [Instr.sliceAt, Instr.slice, run_underlying ht.out, Instr.sliceBounds, b2, hT.run_sizeOf (w := w), Addr.add]
end
end Go.Proofs.YtocoinkhbjlbhaaDoor
end

section
namespace Go.Proofs.YtocoinkhbjlbhaaDoor
open Go Go.RowKit
theorem tdSSSW : TD Tryd.prog 94 1 24 false [.slice none 0 0] := TD.mk' (z := .slice none 0 0) (d := .slice 23) (by kernel_rfl) (by kernel_rfl) rfl
instance : TEc Tryd.prog 94 (eSl (eSl (eSl eWord))) := ⟨_, rfl, tdSSSW⟩
instance : USl Tryd.prog 94 23 := ⟨Tryd.underlying94⟩
theorem i_len24 {α : Type} {E : Enc α} {M : Mut} {w : World} {v : Value} {l : List (List α)} (h : SlOf (eSl E) M w v l) : l.length ≤ 5864062014805 := by
  have := h.bytes
  have e : (eSl E).by_ = 24 := rfl
  rw [e] at this
  omega
theorem i_len48 {M : Mut} {w : World} {v : Value} {l : List Wd} (h : SlOf eWord M w v l) : l.length ≤ 2932031007403 := by
  have := h.bytes
  have e : eWord.by_ = 48 := rfl
  rw [e] at this
  omega
theorem growW_f {n : Nat} (h48 : n * 24 ≤ 140737488351232) : FnG Tryd.prog 65 [pv (.slice none 0 0), pI n] (eSl eWord) [] 27 := by
  refine fnG_of ent65 Tryd.func65 rfl Tryd.ntmps65 rfl fun M0 w0 => ?_
  have h63 : n ≤ maxLen := by unfold maxLen; omega
  have e0 : ((n : Int) - (0 - 0)) = (n : Nat) := by omega
  by_cases h0 : n = 0
  · subst h0
    (repeat (first | refine c_seq ?_ | refine c_reg ?_ | refine c_rnil ?_ | refine c_skip ?_ | refine c_false ?_ | refine c_op (by first | exact (t_capN) | exact (t_gtrF) | exact t_move | exact t_assign | exact t_sub | exact t_lssF | exact t_lenN | fail) ?_ | fail))
    refine c_retGN Tryd.func65 rfl
  · (repeat (first | refine c_seq ?_ | refine c_reg ?_ | refine c_rnil ?_ | refine c_skip ?_ | refine c_true ?_ | refine c_false ?_ | refine c_op (by first | exact (t_capN) | exact t_move | exact t_assign | exact t_sub | exact t_lssF | exact t_gtrT | exact t_lenN | fail) ?_ | fail))
    refine r_to 1 (.pu (pI (n : Nat))) ?_ ?_
    · exact has_int rfl e0
    (repeat (first | refine (c_appZ 1 100 Tryd.underlying3) ?_ | refine c_op (by first | exact (t_sliceNH) | exact t_move | fail) ?_ | fail))
    intro b cap cs h1 h2 h3
    (repeat (first | refine c_seq ?_ | refine c_reg ?_ | refine c_rnil ?_ | refine c_op (by first | exact (t_sliceSH (m := 0)) | exact t_move | exact t_assign | exact t_lenN | fail) ?_ | fail))
    exact c_retG0 100 Tryd.func65 rfl h3 h2
theorem flatW_take {α : Type} {ls : List (List α)} {i : Nat} (h : i < ls.length) : (ls.take (i + 1)).flatten = (ls.take i).flatten ++ ls[i] := by
  rw [List.take_succ_eq_append_getElem h, List.flatten_append]; simp
theorem flat_le {α : Type} (ls : List (List α)) (i : Nat) : (ls.take i).flatten.length ≤ ls.flatten.length := by
  have : ls.flatten = (ls.take i).flatten ++ (ls.drop i).flatten := by rw [← List.flatten_append, List.take_append_drop]
  rw [this, List.length_append]; omega
set_option maxHeartbeats 1000000 in
theorem concatW_f {ls : List (List (List Wd))} (h48 : ls.flatten.length * 24 ≤ 140737488351232) : Fn Tryd.prog 39 [pSl (eSl (eSl eWord)) ls] (pSl (eSl eWord) ls.flatten) := by
  refine fn_of ent39 Tryd.func39 rfl Tryd.ntmps39 rfl fun M0 w0 => ?_
  refine c_have 0 (fun h => i_len24 h) fun hl => ?_
  (repeat (first | refine c_seq ?_ | refine c_reg ?_ | refine c_rnil ?_ | refine c_block ?_ | refine c_op (by first | exact t_move | exact t_assign | exact t_len | fail) ?_ | fail))
  refine c_loop (fun i : Nat => [(0, .pu (pSl (eSl (eSl eWord)) ls)), (3, .pu (pI (ls.take i).flatten.length)), (9, .pu (pSl (eSl (eSl eWord)) ls)), (10, .pu (pI ls.length)), (11, .pu (pI i))]) (fun i => i ≤ ls.length) (fun i => ls.length - i) 0 (by omega) (by repeat (first | exact trivial | refine ⟨has_rfl rfl, ?_⟩ | fail)) fun i hi ih => ?_
  by_cases hlt : i < ls.length
  · have h1 := flatW_take hlt
    have h2 := flat_le ls (i + 1)
    have h3 : (ls.take (i + 1)).flatten.length = (ls.take i).flatten.length + ls[i].length := by rw [h1, List.length_append]
    (repeat (first | refine c_seq ?_ | refine c_reg ?_ | refine c_rnil ?_ | refine c_block ?_ | refine c_inBlock ?_ | refine c_skip ?_ | refine c_true ?_ | refine c_false ?_ | refine c_op (by first | exact t_move | exact t_assign | exact t_add | exact t_lssT | exact t_lssF | exact t_len | exact t_idxN | exact t_load | fail) ?_ | fail))
    exact (ih (i + 1) (by omega) (by omega)).sub (by repeat (first | exact trivial | refine ⟨has_rfl rfl, ?_⟩ | refine ⟨has_int rfl (by first | omega | fail), ?_⟩))
  · have hfin : (ls.take i).flatten.length = ls.flatten.length := by rw [List.take_of_length_le (by omega)]
    rw [hfin]
    (repeat (first | refine c_seq ?_ | refine c_reg ?_ | refine c_rnil ?_ | refine c_block ?_ | refine c_exit ?_ | refine c_false ?_ | refine c_op (by first | exact (t_callG 1 (growW_f h48)) | exact t_move | exact t_assignG | exact t_lssF | exact t_len | fail) ?_ | fail))
    refine c_loop (fun i : Nat => [(0, .pu (pSl (eSl (eSl eWord)) ls)), (6, .gr (eSl eWord) (ls.take i).flatten 1 27), (25, .pu (pSl (eSl (eSl eWord)) ls)), (26, .pu (pI ls.length)), (27, .pu (pI i))]) (fun i => i ≤ ls.length) (fun i => ls.length - i) 0 (by omega) (by repeat (first | exact trivial | refine ⟨has_rfl rfl, ?_⟩ | fail)) fun i hi ih => ?_
    by_cases hlt : i < ls.length
    · have h1 := flatW_take hlt
      have h2 := flat_le ls (i + 1)
      have h3 : (ls.take (i + 1)).flatten.length = (ls.take i).flatten.length + ls[i].length := by rw [h1, List.length_append]
      (repeat (first | refine c_seq ?_ | refine c_reg ?_ | refine c_rnil ?_ | refine c_block ?_ | refine c_inBlock ?_ | refine c_skip ?_ | refine c_true ?_ | refine c_op (by first | exact t_moveG | exact t_move | exact t_assignG | exact t_assign | exact t_add | exact t_lssT | exact t_idxN | exact t_load | fail) ?_ | refine c_opW t_app ?_ | fail))
      refine (ih (i + 1) (by omega) (by omega)).sub ?_
      rw [h1]
      (repeat' (first | exact trivial | refine ⟨?_, ?_⟩ | fail)) <;> (try first | exact has_rfl rfl | exact has_nil rfl | exact has_nilS rfl | exact has_gr rfl | exact has_nilGo rfl | exact has_int rfl (by first | omega | fail) | fail)
    · (repeat (first | refine c_seq ?_ | refine c_reg ?_ | refine c_rnil ?_ | refine c_exit ?_ | refine c_false ?_ | refine c_op (by first | exact t_moveG | exact t_assignG | exact t_lssF | fail) ?_ | fail))
      refine c_ret1 Tryd.func39 rfl ?_
      exact fun h => by rw [List.take_of_length_le (show ls.length ≤ i by omega)] at h; exact h
def idxQ (q : List Wd → Bool) : List (List Wd) → Int → Int
  | [], _ => -1
  | x :: r, i => if q x then i else idxQ q r (i + 1)
theorem idxQ_any {q : List Wd → Bool} : ∀ (l : List (List Wd)) (i : Int), 0 ≤ i → (0 ≤ idxQ q l i ↔ l.any q = true)
  | [], i, _ => by simp [idxQ]
  | x :: r, i, h => by
    simp only [idxQ, List.any_cons, Bool.or_eq_true]
    split
    · rename_i hp; simp [hp, h]
    · rename_i hp; rw [idxQ_any r (i + 1) (by omega)]; simp [hp]
theorem indexQ_f {f : FuncId} {q : List Wd → Bool} (hq : ∀ p, Fn Tryd.prog f [pSl eWord p] (pB (q p))) {l : List (List Wd)} : Fn Tryd.prog 80 [pSl (eSl eWord) l, pv (.func (.func f) #[] #[])] (pI (idxQ q l 0)) := by
  refine fn_of ent80 Tryd.func80 rfl Tryd.ntmps80 rfl fun M0 w0 => ?_
  refine c_have 0 (fun h => i_len24 h) fun hl => ?_
  obtain ⟨r, hr⟩ : ∃ r, r = idxQ q l 0 := ⟨_, rfl⟩
  rw [← hr]
  (repeat (first | refine c_seq ?_ | refine c_reg ?_ | refine c_rnil ?_ | refine c_block ?_ | refine c_op (by first | exact t_move | exact t_assign | exact t_len | fail) ?_ | fail))
  refine c_loop (fun i : Nat => [(0, .pu (pSl (eSl eWord) l)), (1, .pu (pv (.func (.func f) #[] #[]))), (7, .pu (pI l.length)), (8, .pu (pI i))]) (fun i => i ≤ l.length ∧ r = idxQ q (l.drop i) i) (fun i => l.length - i) 0 ⟨by omega, hr⟩ (by repeat (first | exact trivial | refine ⟨has_rfl rfl, ?_⟩ | fail)) fun i ⟨hi, hri⟩ ih => ?_
  by_cases hlt : i < l.length
  · rw [List.drop_eq_getElem_cons hlt] at hri
    simp only [idxQ] at hri
    cases hp : q l[i]
    · have hp' : Fn Tryd.prog f [pSl eWord l[i]] (pB false) := hp ▸ hq l[i]
      simp only [hp, Bool.false_eq_true, if_false] at hri
      (repeat (first | refine c_seq ?_ | refine c_reg ?_ | refine c_rnil ?_ | refine c_block ?_ | refine c_inBlock ?_ | refine c_skip ?_ | refine c_true ?_ | refine c_false ?_ | refine c_op (by first | exact (t_callv (h := hp')) | exact t_move | exact t_assign | exact t_add | exact t_lssT | exact t_idxN | exact t_load | fail) ?_ | fail))
      exact (ih (i + 1) ⟨by omega, hri⟩ (by omega)).sub (by repeat (first | exact trivial | refine ⟨has_rfl rfl, ?_⟩ | fail))
    · have hp' : Fn Tryd.prog f [pSl eWord l[i]] (pB true) := hp ▸ hq l[i]
      simp only [hp, if_true] at hri
      (repeat (first | refine c_seq ?_ | refine c_reg ?_ | refine c_rnil ?_ | refine c_block ?_ | refine c_skip ?_ | refine c_true ?_ | refine c_op (by first | exact (t_callv (h := hp')) | exact t_move | exact t_assign | exact t_lssT | exact t_idxN | exact t_load | fail) ?_ | fail))
      refine c_ret1 Tryd.func80 rfl ?_
      exact fun h => by rw [hri]; exact h
  · rw [List.drop_of_length_le (by omega)] at hri
    simp only [idxQ] at hri
    rw [hri]
    (repeat (first | refine c_seq ?_ | refine c_reg ?_ | refine c_rnil ?_ | refine c_exit ?_ | refine c_false ?_ | refine c_op (by first | exact t_assign | exact t_lssF | fail) ?_ | fail))
    refine c_ret1 Tryd.func80 rfl ?_
    exact fun h => h
theorem containsQ_f {f : FuncId} {q : List Wd → Bool} (hq : ∀ p, Fn Tryd.prog f [pSl eWord p] (pB (q p))) {l : List (List Wd)} : Fn Tryd.prog 53 [pSl (eSl eWord) l, pv (.func (.func f) #[] #[])] (pB (l.any q)) := by
  refine fn_of ent53 Tryd.func53 rfl Tryd.ntmps53 rfl fun M0 w0 => ?_
  have e : l.any q = decide (0 ≤ idxQ q l 0) := by rw [Bool.eq_iff_iff, decide_eq_true_eq]; exact (idxQ_any l 0 (by omega)).symm
  rw [e]
  (repeat (first | refine c_seq ?_ | refine c_reg ?_ | refine c_rnil ?_ | refine c_op (by first | exact t_call (h := (indexQ_f hq)) | exact t_move | exact t_assign | exact t_geq | fail) ?_ | fail))
  refine c_ret1 Tryd.func53 rfl ?_
  exact fun h => h
theorem long_f {p : List Wd} : Fn Tryd.prog 54 [pSl eWord p] (pB (decide (500 < p.length))) := by
  refine fn_of ent54 Tryd.func54 rfl Tryd.ntmps54 rfl fun M0 w0 => ?_
  have e : decide (500 < p.length) = decide ((500 : Int) < p.length) := decide_eq_decide.2 (by omega)
  rw [e]
  (repeat (first | refine c_seq ?_ | refine c_reg ?_ | refine c_rnil ?_ | refine c_op (by first | exact t_move | exact t_assign | exact t_gtr | exact t_len | fail) ?_ | fail))
  refine c_ret1 Tryd.func54 rfl ?_
  exact fun h => h
theorem none_f {p : List Wd} : Fn Tryd.prog 55 [pSl eWord p] (pB (decide (p.length = 0))) := by
  refine fn_of ent55 Tryd.func55 rfl Tryd.ntmps55 rfl fun M0 w0 => ?_
  have e : decide (p.length = 0) = decide ((p.length : Int) = 0) := decide_eq_decide.2 (by omega)
  rw [e]
  (repeat (first | refine c_seq ?_ | refine c_reg ?_ | refine c_rnil ?_ | refine c_op (by first | exact t_move | exact t_assign | exact t_eql | exact t_len | fail) ?_ | fail))
  refine c_ret1 Tryd.func55 rfl ?_
  exact fun h => h
end Go.Proofs.YtocoinkhbjlbhaaDoor
end

section
namespace Go.Proofs.YtocoinkhbjlbhaaDoor
open Go Go.RowKit
def emp : ByteArray := ⟨#[]⟩
def wErr (w : Wd) (next n : Int) : Int :=
  if ¬ 0 < widM w.s ∨ (w.key ≠ emp ∧ ¬ 0 < widM w.key) then 7
  else if w.table ≠ 0 ∧ w.table ≠ 1 then 5
  else if w.note ≠ 0 ∧ (w.note ≠ next ∨ n < w.note) then 5 else 0
def chkP (n : Int) (k : Int → Int) : List Wd → Int → Int
  | [], next => k next
  | w :: r, next => if wErr w next n ≠ 0 then wErr w next n else chkP n k r (if w.note ≠ 0 then next + 1 else next)
def chkA (n : Int) (k : Int → Int) : List (List Wd) → Int → Int
  | [], next => k next
  | p :: r, next => chkP n (chkA n k r) p next
def chkQ (k : Int) : List Wd → Int
  | [] => k
  | w :: r => if wErr w 0 0 ≠ 0 then wErr w 0 0 else chkQ k r
def chkB (k : Int) : List (List Wd) → Int
  | [] => k
  | p :: r => chkQ (chkB k r) p
def longP (l : List (List Wd)) : Bool := l.any fun p => decide (500 < p.length)
def noneP (l : List (List Wd)) : Bool := l.any fun p => decide (p.length = 0)
def sizeM (t : Tx) : Int :=
  if 100 < t.paras.length ∨ 100 < t.notes.length then 2
  else if longP (t.paras ++ t.notes) = true then 2
  else if noneP (t.paras ++ t.notes) = true then 1 else 0
def lastK (n : Nat) (next : Int) : Int := if next ≠ n + 1 then 3 else 0
def chkT (t : Tx) : Int := if sizeM t ≠ 0 then sizeM t else chkA t.notes.length (fun next => chkB (lastK t.notes.length next) t.notes) t.paras 1
theorem size_ok {t : Tx} (h : sizeM t = 0) : t.paras.length ≤ 100 ∧ t.notes.length ≤ 100 ∧ ∀ p ∈ t.paras ++ t.notes, 1 ≤ p.length ∧ p.length ≤ 500 := by
  unfold sizeM at h
  split at h
  · cases h
  · split at h
    · cases h
    · split at h
      · cases h
      · rename_i h1 h2 h3
        refine ⟨by omega, by omega, fun p hp => ?_⟩
        unfold longP at h2
        unfold noneP at h3
        simp only [List.any_eq_true, not_exists, decide_eq_true_eq, not_and] at h2 h3
        have := h2 p hp
        have := h3 p hp
        omega
end Go.Proofs.YtocoinkhbjlbhaaDoor
end
